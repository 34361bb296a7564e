import Derived.LaidSub
import Derived.Stop.Joined
import Derived.Test.YtollifnnpihfdaaGreatDoorX12
import Derived.Lib.SplitLaws
import Derived.Deep.DrawnRows
import Derived.Lib.MapLaws
set_option maxRecDepth 100000
set_option maxHeartbeats 64000000
set_option linter.all false
namespace Go.Proofs.YtollifnnpihfdaaGreatDoor
open Go.ChangeShapes Go.WideShapes Go.ChangeAt Go.RowKit
theorem sP {P:Program} {w:World} :∀ {l:List (String×DataW Unit)} {ps:List MemPlace},DataW.LaidVars P w l ps→∀ (i:Nat) (n:String) (d:DataW Unit),l[i]? =some (n,d)→
  ∃ g t cs fuel p,P.globalNamed n=some g∧(P.globals[g]?).map (·.type)=some t∧w.var? P n=some cs∧DataW.trod (fun _=>()) P w 0 (fun _=>true) false fuel t cs.toList=some (d,p)
 | [],_,_,i,n,d,hm=>by simp at hm
 | (n',d') :: r,ps,h,i,n,d,hm=>by
  obtain ⟨g,t,cs,fuel,p,q,h1,h2,h3,h4,h5,_⟩:=h
  match i,hm with
  | 0,hm=>
   simp at hm;obtain ⟨rfl,rfl⟩:=hm;exact ⟨g,t,cs,fuel,p,h1,h2,h3,h4⟩
  | i+1,hm=>exact sP h5 i n d (by simpa using hm)
section
variable {H:Type} {enc:TypeId×Value→H} {P:Program}
theorem iN (hl:laidOutB P=true) {W W' :World} (hb:Below W.heap.size W W'):∀ {ts:List TypeId} {vs:List Value} {ds:List (DataW H)} {ps:List MemPlace},
  (∀ t∈ts,P.readableRec t=true∧t < P.types.size)→DataW.TrodAll enc P W 0 (fun _=>true) true ts vs ds ps→(∀ x∈ps,x.block < W.heap.size)→
  DataW.TrodAll enc P W' 0 (fun b=>decide (b < W.heap.size)) true ts vs ds ps
 | [],vs,ds,ps,_,h,_=>by
  obtain ⟨rfl,rfl,rfl⟩:=trodAll_nil h;exact trodAll_mk0
 | t :: ts,vs,ds,ps,ht,h,hlt=>by
  obtain ⟨v,vs1,d,ds1,p,q,rfl,rfl,rfl,h1,h2⟩:=trodAll_cons h;have hh:=ht t List.mem_cons_self;exact trodAll_cons_mk (Below.trod hl hh.1 hh.2 h1 hb fun x hx=>hlt x (List.mem_append_left _ hx))
   (iN hl hb (fun u hu=>ht u (List.mem_cons_of_mem _ hu)) h2 fun x hx=>hlt x (List.mem_append_right _ hx))
theorem law_mono {f:FuncId} {args:Array Value} {W:World} {Q:Ending→World→Prop} (h:Calls P f args W fun e w' =>e= .returned (.bool true)∧Below W.heap.size W w')
 (k:∀ W',Below W.heap.size W W' →Q (.returned (.bool true)) W'):Calls P f args W Q:=h.mono fun _ w' hh=>hh.1 ▸ k w' hh.2
theorem post_law {f:Func} {s:ChangeSpec} {W W' :World} {args:Array Value} {ds gs:List (DataW H)} {before:List MemPlace} {b:TypeId}
   (hl:laidOutB P=true) (hp:(f.params.toList.all fun t=>P.readableRec t && decide (t < P.types.size))=true) (hr:f.resultTypes=#[b]) (I4:P.underlying b=some .bool)
   (hW:DataW.Whole enc P f.params.toList s.vars false W args.toList ds gs before) (hv:s.vars= []) (hfn:s.fn H (ds ++ gs)= { results:= [.lit (.bool true)],args:=ds }) (hb:Below W.heap.size W W'):
   s.post enc P f false true false false W args (.bool true) W' :=by
 have hlt:∀ p∈before,p.block < W.heap.size:=fun p hp=>hW.lt p hp;obtain ⟨p,q,hA,hV,rfl,hfz,hnd⟩:=id hW;have hV' :=hV;rw [hv] at hV';obtain ⟨rfl,rfl⟩:=trodVars_none hV';refine ⟨ds, [],_, [],p, [],hW,?_,?_,?_,hb.frame _,fun h=>by cases h⟩
 · rw [hfn,hr];exact trodAll_mk1 (shut_bool I4 _)
 · rw [hfn];exact iN hl hb (fun t ht=>by simpa using List.all_eq_true.1 hp t ht) hA fun x hx=>hlt x (List.mem_append_left _ hx)
 · rw [hfn,hv];rfl
theorem ints_arg {W:World} {base:Nat} {t e:TypeId} {v:Value} {d:DataW H} {p:List MemPlace} (ht:P.underlying t=some (.slice e)) (he:P.underlying e=some (.int .i64)) (hc:P.cellsOf e=1)
   (hv:Value.okWide P W .any base t v) (h:DataW.Trod enc P W 0 (fun _=>true) true t v d p) (hlt:∀ x∈p,x.block < W.heap.size):
   ∃ (A:Option Addr) (n c:Nat),v= .slice A n c∧(n:Int)≤9223372036854775807∧∀ k,k < n→∃ (ad:Addr) (z:Int),A=some ad∧ad.block < W.heap.size∧W.cell? (ad.add k)=some (.int .i64 z)∧ -9223372036854775808≤z∧z≤9223372036854775807:=by
 obtain ⟨a0,len,cap,rfl⟩:=okWide_slice ht hv;obtain ⟨fuel,hf⟩:=h;rcases open_ints ht he hc hf with ⟨hcs,hx⟩ | ⟨a,len',cap',zs,hcs,_,hl,hm,hz,hx,hcell,hwz⟩
 · simp [Value.cells] at hcs;obtain ⟨rfl,rfl,rfl⟩:=hcs;exact ⟨none,0,0,rfl,by omega,fun k hk=>by omega⟩
 · simp [Value.cells] at hcs;obtain ⟨rfl,rfl,rfl⟩:=hcs;simp only [if_true] at hz;unfold maxLen at hm;refine ⟨some a,len,cap,rfl,by omega,fun k hk=>?_⟩;have hkz:k < zs.length:=(by omega);have hw:=bounds_i64 (hwz (zs.getD k 0) (by rw [List.getD_eq_getElem?_getD,List.getElem?_eq_getElem hkz];exact List.getElem_mem hkz));refine ⟨a,zs.getD k 0,rfl,?_,hcell k hkz,hw.1,hw.2⟩;injection hx with _ hp;have hmem:MemPlace.cell a.block (a.off+0)∈p:=by
    rw [hp];unfold MemPlace.row;simp;omega
   exact hlt _ hmem
end
abbrev JK (nm:ByteArray) (kd nu:Int) (tx:ByteArray):Value:= .agg #[.string nm, .int .i64 kd, .int .i64 nu, .string tx]
structure Pr where
 nm:ByteArray
 kd:Int
 nu:Int
 tx:ByteArray
structure Rc where
 ty:Int
 ti:Int
 se:Int
 ps:List Pr
abbrev prV (p:Pr):Value:=JK p.nm p.kd p.nu p.tx
abbrev rcC (r:Rc) (v:Value):Array Value:=#[.int .i64 r.ty, .int .i64 r.ti, .int .i64 r.se,v]
abbrev rcV (r:Rc) (v:Value):Value:= .agg (rcC r v)
theorem Tryz.Ff:(Tryz.prog.info? 79).map (fun i=>(i.zero,i.size,i.bytes))=some (some (.agg #[.string ⟨#[]⟩, .int .i64 0, .int .i64 0, .string ⟨#[]⟩]),4,48):=by kernel_rfl
theorem Tryz.Fg:(Tryz.prog.info? 77).map (fun i=>(i.zero,i.size,i.bytes))=some (some (.agg #[.int .i64 0, .int .i64 0, .int .i64 0, .slice none 0 0]),4,48):=by kernel_rfl
def EP:El Pr where
 C p:= [.string p.nm, .int .i64 p.kd, .int .i64 p.nu, .string p.tx]
 e:=79
 sl:=75
 sz:=4
 bs:=48
 len _:=rfl
 one p u hu:=by simp at hu;rcases hu with rfl | rfl | rfl | rfl <;> rfl
 pos:=by omega
 small:=by omega
 hu:=Tryz.underlying75
 info:=by
  obtain ⟨i0,h1,h2,h3,h4⟩:=info_parts Tryz.Ff;exact ⟨i0,_,h1,h2,h3,h4,rfl⟩
structure Rm where
 r:Rc
 A:Option Addr
 c:Nat
abbrev Rm.sl (x:Rm):Value:= .slice x.A x.r.ps.length x.c
def ER:El Rm where
 C x:= [.int .i64 x.r.ty, .int .i64 x.r.ti, .int .i64 x.r.se, .slice x.A x.r.ps.length x.c]
 e:=77
 sl:=65
 sz:=4
 bs:=48
 len _:=rfl
 one x u hu:=by simp at hu;rcases hu with rfl | rfl | rfl | rfl <;> rfl
 pos:=by omega
 small:=by omega
 hu:=Tryz.underlying65
 info:=by
  obtain ⟨i0,h1,h2,h3,h4⟩:=info_parts Tryz.Fg;exact ⟨i0,_,h1,h2,h3,h4,rfl⟩
theorem JL (r:Rc) (v:Value):(Tryz.prog.info? 77).map (·.size)=some (rcC r v).size:=by show _=some 4;kernel_rfl
abbrev RcB (w:World) (g:Nat) (r:Rc) (v:Value):Prop:=Blk w g 77 (rcC r v)
theorem eqI (w:World) (d:Nat) (x y:Int):(Op.equalIn (d+1) 3 (.int .i64 x) (.int .i64 y)).run Tryz.prog w= .ok (x == y) w:=by
 simp [Op.equalIn,run_underlying Tryz.underlying3]
theorem eqS (w:World) (d:Nat) (x y:ByteArray):(Op.equalIn (d+1) 9 (.string x) (.string y)).run Tryz.prog w= .ok (x.toList == y.toList) w:=by
 simp [Op.equalIn,run_underlying Tryz.underlying9,beq_toListBytes]
theorem ym {α β:Type} {l:List α} {g:α→β} {x0 x1 x2 x3:β} (h:l.map g= [x0,x1,x2,x3]):∃ f0 f1 f2 f3,l= [f0,f1,f2,f3]∧g f0=x0∧g f1=x1∧g f2=x2∧g f3=x3:=by
 have hl:=congrArg List.length h;simp at hl
 match l,hl with
 | [f0,f1,f2,f3],_=>
  simp at h;exact ⟨f0,f1,f2,f3,rfl,h.1,h.2.1,h.2.2.1,h.2.2.2⟩
theorem JM (p:Pr) (w:World):(Op.equalIn 10000 79 (prV p) (prV p)).run Tryz.prog w= .ok true w:=by
 have hu:Tryz.prog.underlying 79=some (.struct (Tryz.prog.fieldsOf 79)):=by kernel_rfl
 have hs:Tryz.prog.stoodInHeld 79=false:=by kernel_rfl
 rw [run_equalIn_struct w 9999 _ _ _ hu hs];obtain ⟨a,b,c,d⟩:=p;have hm : (Tryz.prog.fieldsOf 79).toList.map (fun f => (f.name == "_", f.type, f.offset)) = [(false, 9, 0), (false, 3, 1), (false, 3, 2), (false, 9, 3)] := by kernel_rfl
 obtain ⟨f0,f1,f2,f3,hl,e0,e1,e2,e3⟩:=ym hm;simp only [Prod.mk.injEq,beq_eq_false_iff_ne,ne_eq] at e0 e1 e2 e3;obtain ⟨n0,t0,o0⟩:=e0;obtain ⟨n1,t1,o1⟩:=e1;obtain ⟨n2,t2,o2⟩:=e2;obtain ⟨n3,t3,o3⟩:=e3;have p0:∀ (a d:ByteArray) (b c:Int) (w:World),(part 9 #[.string a, .int .i64 b, .int .i64 c, .string d] 0).run Tryz.prog w= .ok (.string a) w:=fun _ _ _ _ _=>by show _=_;kernel_rfl
 have p1:∀ (a d:ByteArray) (b c:Int) (w:World),(part 3 #[.string a, .int .i64 b, .int .i64 c, .string d] 1).run Tryz.prog w= .ok (.int .i64 b) w:=fun _ _ _ _ _=>by show _=_;kernel_rfl
 have p2:∀ (a d:ByteArray) (b c:Int) (w:World),(part 3 #[.string a, .int .i64 b, .int .i64 c, .string d] 2).run Tryz.prog w= .ok (.int .i64 c) w:=fun _ _ _ _ _=>by show _=_;kernel_rfl
 have p3:∀ (a d:ByteArray) (b c:Int) (w:World),(part 9 #[.string a, .int .i64 b, .int .i64 c, .string d] 3).run Tryz.prog w= .ok (.string d) w:=fun _ _ _ _ _=>by show _=_;kernel_rfl
 have ei:=fun x y w=>eqI w 9998 x y;have es:=fun x y w=>eqS w 9998 x y;rw [hl];simp only [Op.eqFields,n0,n1,n2,n3,not_false_eq_true,t0,t1,t2,t3,o0,o1,o2,o3,ne_eq,not_false_eq_true,if_true,Sem.run_bind,p0,Result.andThen_ok,ei,es];simp [p0,p1,p2,p3,ei,es]
theorem qP {w:World} {a:Addr} {p:Pr} (h:∀ j,j < 4→w.cell? (a.add j)=(EP.C p)[j]?):
  w.cell? a=some (.string p.nm)∧w.cell? ⟨a.block,a.off+1,none⟩=some (.int .i64 p.kd)∧w.cell? ⟨a.block,a.off+2,none⟩=some (.int .i64 p.nu)∧w.cell? ⟨a.block,a.off+3,none⟩=some (.string p.tx):=
 ⟨h 0 (by omega),h 1 (by omega),h 2 (by omega),h 3 (by omega)⟩
theorem mX {w:World} {a:Addr} {x:Rm} (h:∀ j,j < 4→w.cell? (a.add j)=(ER.C x)[j]?):
  w.cell? a=some (.int .i64 x.r.ty)∧w.cell? ⟨a.block,a.off+1,none⟩=some (.int .i64 x.r.ti)∧w.cell? ⟨a.block,a.off+2,none⟩=some (.int .i64 x.r.se)∧w.cell? ⟨a.block,a.off+3,none⟩=some (.slice x.A x.r.ps.length x.c):=
 ⟨h 0 (by omega),h 1 (by omega),h 2 (by omega),h 3 (by omega)⟩
theorem rQ (A B:Option Addr) (n ca cb:Nat) (ps:List Pr) (hn:n=ps.length) (hl:n≤1000000) (w:World) (ha:AtE EP w w.heap.size A ps) (hb:AtE EP w w.heap.size B ps):
  Calls Tryz.prog 77 #[.slice A n ca, .slice B n cb] w fun e w' =>e= .returned (.bool true)∧Below w.heap.size w w' :=by
 have b1:((n:Int) != (n:Int))=false:=by simp
 have HN:=Hd hn;have HA:=Hd ha;have HB:=Hd hb;clear hn ha hb;go_in;go_wp2_with fail;go_loopw [5] (fun i wr=>∃ k:Nat,k≤n∧i= .int .i64 (k:Int)∧Below w.heap.size w wr) (fun i _=>n - (intOf i).toNat);case atStart=>exact ⟨0,Nat.zero_le _,rfl,Below.refl _ _⟩
 case round=>
  obtain ⟨k,hk,rfl,hbw⟩:=hrel;have HBW:=Hd hbw;by_cases hlt:k < n
  · have hkp:k < ps.length:=(by rw [← HN.o];exact hlt);obtain ⟨ad,rfl,_,hc⟩:=(HA.o.keep hbw (Nat.le_refl _)) k hkp;obtain ⟨bd,rfl,_,hd⟩:=(HB.o.keep hbw (Nat.le_refl _)) k hkp;obtain ⟨s0,s1,s2,s3⟩:=qP (a:=ad.add (k * 4)) hc;obtain ⟨u0,u1,u2,u3⟩:=qP (a:=bd.add (k * 4)) hd;have k0:(0:Int)≤(k:Int):=(by omega);have kn:(k:Int) < (n:Int):=(by omega);clear hbw hc hd;generalize ps[k]=p at *;have hq:=JM p;go_wp2_with fail;go_quiet (fail);go_wp2_with fail;go_roundw;case rel=>exact ⟨k+1,by omega,by go_num,below_drewN HBW.o _⟩
    case measure=>simp [intOf];omega
  · have hkn:k=n:=(by omega);subst hkn;clear hlt hbw;go_wp2_with fail;go_ret;exact ⟨rfl,HBW.o⟩
theorem Fh (w:World) (x z:Rc) (v u:Value):RcB ((w.alloc (.cells (rcC x v) 77)).alloc (.cells (rcC z u) 77)) w.heap.size x v∧RcB ((w.alloc (.cells (rcC x v) 77)).alloc (.cells (rcC z u) 77)) (w.heap.size+1) z u∧Below w.heap.size w ((w.alloc (.cells (rcC x v) 77)).alloc (.cells (rcC z u) 77)):=by
 refine ⟨(Blk.new w _ _).alloc _,?_,((Below.refl _ _).alloc (Nat.le_refl _) _).alloc (by simp) _⟩;have:=Blk.new (w.alloc (.cells (rcC x v) 77)) (rcC z u) 77;simpa using this
theorem JN (r:Rc) (A B:Option Addr) (n ca cb:Nat) (hn:n=r.ps.length) (hl:n≤1000000) (w:World) (ha:AtE EP w w.heap.size A r.ps) (hb:AtE EP w w.heap.size B r.ps):
  Calls Tryz.prog 31 #[rcV r (.slice A n ca),rcV r (.slice B n cb)] w fun e w' =>e= .returned (.bool true)∧Below w.heap.size w w' :=by
 obtain ⟨x1,x2,hb0⟩:=Fh w r r (.slice A n ca) (.slice B n cb);have HS:=Hd (rQ A B n ca cb r.ps hn hl _ (ha.below hb0) (hb.below hb0));have HB0:=Hd hb0;have c0:=x1.cell 0;have c1:=x1.cell 1;have c2:=x1.cell 2;have c3:=x1.cell 3;have d0:=x2.cell 0;have d1:=x2.cell 1;have d2:=x2.cell 2;have d3:=x2.cell 3;have t1:(r.ty == r.ty)=true:=by simp
 have t2:(r.ti == r.ti)=true:=by simp
 have t3:(r.se == r.se)=true:=by simp
 clear x1 x2 hb0 ha hb hn;go_in;go_wp2_with fail;refine HS.o.mono ?_;rintro e w1 ⟨rfl,hb1⟩;have HB1:=Hd (aa HB0.o hb1);clear hb1;go_wp2_with fail;go_ret;exact ⟨rfl,HB1.o⟩
theorem uP (w:World):ax EP (w.alloc (.cells #[] 79)) w.heap.size (.slice (some ⟨w.heap.size,0,none⟩) 0 0) []:=
 ⟨rfl, .inr ⟨w.heap.size,0,#[],rfl,Nat.le_refl _,heap_alloc_new w _,Nat.le_refl _,by unfold maxLen;omega,rfl,rfl⟩⟩
theorem Fj (ad:Addr) (n c:Nat) (w:World):(binOp .eql 75 (.slice (some ad) n c) (.slice none 0 0)).run Tryz.prog w= .ok (.bool false) w:=by show _=_;kernel_rfl
theorem BU (n c:Nat) (w:World):(binOp .eql 75 (.slice none n c) (.slice none 0 0)).run Tryz.prog w= .ok (.bool true) w:=by show _=_;kernel_rfl
def uQ (n:Nat) (ps:List Pr) (w:World) (e:Ending) (w' :World):Prop:=∃ (A:Option Addr) (c:Nat),e= .returned (.slice A n c)∧ax EP w' w.heap.size (.slice A n c) ps∧Below w.heap.size w w'
theorem uR {w w' :World} {o:Obj} (h:(w.alloc o).grownBy w' (Value.slice (some ⟨w.heap.size,0,none⟩) 0 0).ownBlock):Below w.heap.size w w' :=
 ((Below.refl w.heap.size w).alloc (Nat.le_refl _) o).trans ⟨h.os,h.tape,h.output,h.size,fun i hi=>h.block i (by simp;omega) (fun e=>by injection e with e;simp at e;omega)⟩
theorem zW (A:Option Addr) (n c:Nat) (ps:List Pr) (hn:n=ps.length) (hl:n≤1000) (w:World) (h:AtE EP w w.heap.size A ps):
   Calls Tryz.prog 66 #[.slice A n c] w (uQ n ps w):=by
 subst hn;rcases A with _ | ad
 · have hM:ps= []:=by
    cases ps with
    | nil=>rfl
    | cons s r=>obtain ⟨ad,e,_⟩:=h 0 (by simp);cases e
   subst hM;clear h hl;have hq:=BU 0 c;go_in;go_wp2_with fail;go_ret;exact ⟨none,0,rfl,ax.nil _ _,Below.refl _ _⟩
 · have HB:=Hd (show Below w.heap.size w (w.alloc (.cells #[] 79)) from (Below.refl _ _).alloc (Nat.le_refl _) _);have HA:=Hd (h.below HB.o);clear h;have hq:=Fj ad ps.length c;go_in;go_wp2_with (refine aj EP rfl (.tmp 5) (.tmp 6) rfl w.heap.size (.slice (some ⟨w.heap.size,0,none⟩) 0 0) [] rfl (uP w) _ (some ad) ps.length c ps rfl rfl HA.o (by simp;omega) (by simp) ?_;intro v6 w6 ho6 hg6 iL);obtain ⟨A',c',e6,_⟩:=ax.at (show ax EP w6 w.heap.size v6 ps from ho6);subst e6;go_ret;exact ⟨A',c',rfl,ho6,uR hg6⟩
abbrev prA (p:Pr):Array Value:=#[.string p.nm, .int .i64 p.kd, .int .i64 p.nu, .string p.tx]
theorem Fp (p:Pr):(prA p).all (·.oneCell')=true:=by simp [Value.oneCell']
theorem JO (p:Pr):(Tryz.prog.info? 79).map (·.size)=some (prA p).size:=by show _=some 4;kernel_rfl
theorem kF {fn:Func} (h:fn.results=#[.cell 4 79]) (tmps:Array Value) (w:World) (g:Nat) (p:Pr) (hp:tmps.getD 4 undef= .pointer (some ⟨g,0,none⟩)) (hg:Blk w g 79 (prA p)):
  (results fn tmps).run Tryz.prog w= .ok (prV p) w:=
 results_cell_row h tmps w g _ (prA p) (0,0) _ hp hg Tryz.underlying79 rfl (by show _=some 4;kernel_rfl)
theorem eD (s:ByteArray) (n:Int) (w:World):Calls Tryz.prog 48 #[.string s, .int .i64 n] w fun e w' =>e= .returned (prV ⟨s,1,n,⟨#[]⟩⟩)∧Below w.heap.size w w' :=by
 go_in;go_wp2_with fail;refine bodyPost_ret (kF (fn:=Tryz.f48) rfl _ _ w.heap.size ⟨s,1,n,⟨#[]⟩⟩ rfl (Blk.new w _ _)) rfl ?_;exact ⟨rfl,(Below.refl _ _).alloc (Nat.le_refl _) _⟩
theorem Fq (s t:ByteArray) (ht:t.size≤640) (w:World):Calls Tryz.prog 47 #[.string s, .string t] w fun e w' =>e= .returned (prV ⟨s,2,0,t⟩)∧Below w.heap.size w w' :=by
 have h1:¬ (640:Int) < (t.size:Int):=by omega
 go_in;go_wp2_with fail;refine bodyPost_ret (kF (fn:=Tryz.f47) rfl _ _ w.heap.size ⟨s,2,0,t⟩ rfl (Blk.new w _ _)) rfl ?_;exact ⟨rfl,(Below.refl _ _).alloc (Nat.le_refl _) _⟩
theorem Fs (s:ByteArray) (w:World):Calls Tryz.prog 50 #[.string s, .string ⟨#[]⟩] w fun e w' =>e= .returned (prV ⟨s,3,0,⟨#[]⟩⟩)∧Below w.heap.size w w' :=by
 go_in;go_wp2_with fail;refine bodyPost_ret (kF (fn:=Tryz.f50) rfl _ _ w.heap.size ⟨s,3,0,⟨#[]⟩⟩ rfl (Blk.new w _ _)) rfl ?_;exact ⟨rfl,(Below.refl _ _).alloc (Nat.le_refl _) _⟩
theorem oF {P:Program} {w:World} {a:Addr} {ty:TypeId} {cs:Array Value} {d:TypeDesc} (h:∀ j v,cs.toList[j]? =some v→w.cell? (a.add j)=some v)
  (hu:P.underlying ty=some d) (hd:(match d with | .struct _ | .array _ _=>true | _=>false)=true) (hi:(P.info? ty).map (·.size)=some cs.size):
  (loadVar ty a).run P w= .ok (.agg cs) w:=by
 have hl:(loadCells a cs.toList.length).run P w= .ok cs.toList.toArray w:=run_loadCells_list (P:=P) w a cs.toList h;cases hq:P.info? ty with
 | none=>simp [hq] at hi
 | some i=>
  have hs:i.size=cs.size:=by simpa [hq] using hi
  have hagg:(isAgg ty).run P w= .ok true w:=by
   unfold isAgg;rw [Sem.run_bind,run_underlying hu w];cases d <;> simp_all
  simp only [Array.length_toList,Array.toArray_toList] at hl;simp [loadVar,Sem.run_bind,hagg,sizeOf,typeInfo,hq,hs,hl]
theorem lv3 (a:Addr) (w:World):(loadVar 3 a).run Tryz.prog w=(load a).run Tryz.prog w:=by
 unfold loadVar;simp [go_sem]
theorem Ea (a:Addr) (w:World):(loadVar 65 a).run Tryz.prog w=(load a).run Tryz.prog w:=by
 unfold loadVar;simp [go_sem]
theorem Eb (a:Addr) (w:World):(loadVar 38 a).run Tryz.prog w=(load a).run Tryz.prog w:=by
 unfold loadVar;simp [go_sem]
theorem IE (g o j:Nat):(⟨g,o,none⟩:Addr).add j=⟨g,o+j,none⟩:=by
 unfold Addr.add;split
 · subst_vars;rfl
 · rfl
attribute [-go_sem] loadVar
attribute [local go_sem] lv3 Ea Eb
end Go.Proofs.YtollifnnpihfdaaGreatDoor
namespace Go.Proofs.YtollifnnpihfdaaGreatDoor
open Go.RowKit
theorem fJ {P:Program} {ops:Array Oper} {o:Oper} {a:Act} {w:World} {K:Act→World→Prop} {Q:Exit→Act→World→Prop} {F:Prop} (hgd:o.guard=none) (t:TypeId) (parts:Array (Nat×Operand)) (ho:o.op= .build t parts)
  (cells:Array Value) (hf:P.built t (parts.map fun (i,x)=>(i,a.eval x)).toList=some cells) (h:K (a.put o.dst (.agg cells)) w):
  if Region.wanted o (yielded ops a.tmps)=true then Oper.wp P o a w K Q else F:=by
 have hw:Region.wanted o (yielded ops a.tmps)=true:=by simp [Region.wanted,hgd]
 rw [if_pos hw];exact wp_build t parts ho (by rw [hf];rfl) (by rw [hf];exact h)
theorem ag {P:Program} {ops:Array Oper} {o:Oper} {a:Act} {w:World} {K:Act→World→Prop} {Q:Exit→Act→World→Prop} {F:Prop} (hgd:o.guard=none) (ty:TypeId) (x y:Operand) (ho:o.op= .store ty x y)
  {g:Nat} {t:TypeId} {old:Array Value} (hg:Blk w g t old) (cells:Array Value) (hx:a.eval x= .pointer (some ⟨g,0,none⟩)) (hy:a.eval y= .agg cells)
  (hi:(P.info? ty).map (·.size)=some cells.size) (hold:old.size=cells.size) (h1:cells.all (·.oneCell')=true) (h:K (a.put o.dst undef) (w.setRow g cells)):
  if Region.wanted o (yielded ops a.tmps)=true then Oper.wp P o a w K Q else F:=by
 have hw:Region.wanted o (yielded ops a.tmps)=true:=by simp [Region.wanted,hgd]
 rw [if_pos hw];exact wp_store_row ty x y ho g cells hx hy t old hg hi hold h1 h
abbrev Cf (c:Ctx) (r:bN):Array Value:=#[.int .i64 (c.p 0), .int .i64 (c.p 1), .int .i64 (c.p 2), .int .i64 (c.p 3), .int .i64 (c.p 4), .int .i64 (c.p 5), .int .i64 (c.p 6), .int .i64 (c.p 7), .int .i64 r.d, .int .i64 r.i, .string c.comm, .string c.exe,r.o.v, .bool r.u]
attribute [local irreducible] bE aO jQ
theorem MS (w:World) (c:Ctx) (r:bN) (it:Value) (i:Itm) (ir:bB) (W:World) (hW:W=((w.alloc (.cells (bE c r it) 54)).alloc (.cells (aO i ir) 73)).alloc (.cells (Cf c r) 47)):
  bU W w.heap.size c r it∧gJ W (w.heap.size+1) i ir∧Blk W (w.heap.size+1+1) 47 (Cf c r)∧Below w.heap.size w W:=by
 subst hW;have h3:=Blk.new ((w.alloc (.cells (bE c r it) 54)).alloc (.cells (aO i ir) 73)) (Cf c r) 47;refine ⟨(Ce w c r it _).alloc _,(JR w i ir _).alloc _,by simpa using h3,(((Below.refl _ _).alloc (Nat.le_refl _) _).alloc (by simp) _).alloc (by simp;omega) _⟩
end Go.Proofs.YtollifnnpihfdaaGreatDoor
namespace Go.Proofs.YtollifnnpihfdaaGreatDoor
def NoC (c:UInt8) (s:ByteArray):Prop:=∀ b∈s.data.toList,b≠c
def joinL (c:UInt8):List ByteArray→List UInt8
 | []=> []
 | x :: L=>x.data.toList ++ Lib.joinTail [c] (L.map (·.data.toList))
theorem lW (c:UInt8) (x y:ByteArray) (L:List ByteArray):joinL c (x :: y :: L)=x.data.toList ++ c :: joinL c (y :: L):=by
 simp [joinL,Lib.joinTail]
structure IsW (c:UInt8) (s:ByteArray) (L:List ByteArray):Prop where
 ne:L≠ []
 no:∀ x∈L,NoC c x
 eq:s.data.toList=joinL c L
theorem bsz (s:ByteArray):s.data.toList.length=s.size:=by simp
theorem IsW.size {c:UInt8} {s:ByteArray} {L:List ByteArray} (h:IsW c s L):L.length≤s.size+1∧∀ x∈L,x.size≤s.size:=by
 have key:∀ L:List ByteArray,L.length≤(joinL c L).length+1∧∀ x∈L,x.size≤(joinL c L).length:=by
  intro L;induction L with
  | nil=>simp
  | cons x L ih=>
   cases L with
   | nil=>
    refine ⟨by simp,fun z hz=>?_⟩;rw [List.mem_singleton.1 hz, ← bsz];simp [joinL,Lib.joinTail]
   | cons y L=>
    rw [lW];obtain ⟨h1,h2⟩:=ih;refine ⟨by simp at h1 ⊢;omega,?_⟩;intro z hz;rcases List.mem_cons.1 hz with rfl | hz
    · rw [← bsz];simp
    · have:=h2 z hz;simp;omega
 have:=key L;rw [← h.eq,bsz] at this;exact this
def jS (c:UInt8) (D:List ByteArray):List UInt8:=(D.map (fun d=>d.data.toList ++ [c])).flatten
theorem lX (c:UInt8) (x:ByteArray):∀ D:List ByteArray,jS c D ++ x.data.toList=joinL c (D ++ [x])
 | []=>by simp [jS,joinL,Lib.joinTail]
 | [d]=>by simp [jS,joinL,Lib.joinTail]
 | d :: e :: D=>by
  have ih:=lX c x (e :: D);have h1:jS c (d :: e :: D)=d.data.toList ++ c :: jS c (e :: D):=by simp [jS]
  have h2:d :: e :: D ++ [x]=d :: e :: (D ++ [x]):=rfl;have h3:e :: D ++ [x]=e :: (D ++ [x]):=rfl;rw [h1,h2,lW, ← h3, ← ih];simp
structure gT (c:UInt8) (s:ByteArray) (D:List ByteArray) (m i:Nat):Prop where
 le:m≤i
 top:i≤s.size
 eq:s.data.toList.take m=jS c D
 no:∀ d∈D,NoC c d
 rest:∀ j,m≤j→j < i→s.data.toList[j]? ≠some c
theorem gT.start (c:UInt8) (s:ByteArray):gT c s [] 0 0:=⟨Nat.le_refl _,Nat.zero_le _,rfl,by simp,fun _ _ h=>absurd h (Nat.not_lt_zero _)⟩
theorem gT.next {c:UInt8} {s:ByteArray} {D:List ByteArray} {m i:Nat} (h:gT c s D m i) (hi:i < s.size) (hc:s[i]≠c):gT c s D m (i+1):=
 ⟨by have:=h.le;omega,hi,h.eq,h.no,fun j h1 h2=>by
  by_cases e:j=i
  · subst e;rw [List.getElem?_eq_getElem (by rw [bsz];exact hi)];intro e;exact hc (Option.some.inj e)
  · exact h.rest j h1 (by omega)⟩
theorem gU (s:ByteArray) (a b:Nat):(s.extract a b).data.toList=(s.data.toList.take b).drop a:=by
 rw [Lib.extract_data];simp [List.drop_take]
theorem gT.piece {c:UInt8} {s:ByteArray} {D:List ByteArray} {m i:Nat} (h:gT c s D m i):NoC c (s.extract m i):=by
 intro b hb e;rw [gU] at hb;obtain ⟨j,hj,he⟩:=List.mem_iff_getElem.1 hb;rw [List.getElem_drop,List.getElem_take] at he;rw [List.length_drop,List.length_take] at hj;refine h.rest (m+j) (by omega) (by omega) ?_;rw [List.getElem?_eq_getElem (by omega),he,e]
theorem gT.cut {c:UInt8} {s:ByteArray} {D:List ByteArray} {m i:Nat} (h:gT c s D m i) (hi:i < s.size) (hc:s[i]=c):gT c s (D ++ [s.extract m i]) (i+1) (i+1):=by
 have hi' :i < s.data.toList.length:=by rw [bsz];exact hi
 refine ⟨Nat.le_refl _,hi,?_,?_,fun j h1 h2=>absurd h2 (by omega)⟩
 · have hg:s.data.toList[i]=c:=hc;have e1:s.data.toList.take (i+1)=s.data.toList.take i ++ [c]:=(by rw [List.take_succ_eq_append_getElem hi',hg]);have e2:s.data.toList.take i=s.data.toList.take m ++ (s.extract m i).data.toList:=by
     rw [gU]
     conv=>lhs;rw [← List.take_append_drop m (s.data.toList.take i),List.take_take,Nat.min_eq_left h.le]
   rw [e1,e2,h.eq];simp [jS]
 · intro d hd;rcases List.mem_append.1 hd with h1 | h1
   · exact h.no d h1
   · rw [List.mem_singleton.1 h1];exact h.piece
theorem gT.done {c:UInt8} {s:ByteArray} {D:List ByteArray} {m:Nat} (h:gT c s D m s.size):IsW c s (D ++ [s.extract m s.size]):=by
 refine ⟨by simp,?_,?_⟩
 · intro d hd;rcases List.mem_append.1 hd with h1 | h1
   · exact h.no d h1
   · rw [List.mem_singleton.1 h1];exact h.piece
 · rw [← lX, ← h.eq,gU];have:s.data.toList.take s.size=s.data.toList:=List.take_of_length_le (by rw [bsz];exact Nat.le_refl _);rw [this,List.take_append_drop]
theorem gT.count {c:UInt8} {s:ByteArray} {D:List ByteArray} {m i:Nat} (h:gT c s D m i):D.length≤m:=by
 have:∀ D:List ByteArray,D.length≤(jS c D).length:=by
  intro D;induction D with
  | nil=>simp
  | cons d D ih=>
   have:jS c (d :: D)=d.data.toList ++ c :: jS c D:=(by simp [jS]);rw [this];simp;omega
 have h1:=this D;rw [← h.eq,List.length_take] at h1;omega
open Go.RowKit
def hasB (m:Nat) (n:Int):Bool:=decide (0≤n) && decide (n < 32) && m.testBit n.toNat
def MV (c:UInt8):Bool:=decide (48≤c.toNat) && decide (c.toNat≤57)
def MX (l:List UInt8):Nat:=l.foldl (fun v c=>10 * v+(c.toNat - 48)) 0
def Fy (l:List UInt8):Bool:=decide (1≤l.length) && decide (l.length≤4) && !(l.head? == some 48 && decide (1 < l.length))
def JS (s:ByteArray):Option Nat:=if Fy s.data.toList && s.data.toList.all MV then some (MX s.data.toList) else none
def yt (c:UInt8) (s:ByteArray):List ByteArray:=Lib.splitB ⟨#[c]⟩ 0 (Lib.countB s ⟨#[c]⟩) s
def JU:List ByteArray→Option (Nat×Nat)
 | [x]=>(JS x).map fun n=>(n,n)
 | [x,y]=>match JS x,JS y with
  | some a,some b=>if a≤b then some (a,b) else none
  | _,_=>none
 | _=>none
def JV (s:ByteArray):Option (Nat×Nat):=JU (yt 45 s)
def nums (x:ByteArray):List Nat:=match JV x with
 | some (a,b)=>List.range' a (min (b+1) 32 - a)
 | none=> []
def gy (x:ByteArray):Bool:=decide (x.size≠0)
open Go.ChangeShapes Go.WideShapes Go.RowKit
def bD (w:World) (B:Nat) (A:Option Addr) (ss:List ByteArray):Prop:=∀ k (hk:k < ss.length),∃ ad:Addr,A=some ad∧ad.block < B∧w.cell? (ad.add k)=some (.string (ss[k]'hk))
theorem ic (a:Addr) (n:Nat):(a.add n).block=a.block:=by unfold Addr.add;split <;> rfl
theorem bD.keep {w w' :World} {B B' :Nat} {A:Option Addr} {ss:List ByteArray} (h:bD w B A ss) (hb:Below B' w w') (hB:B≤B'):bD w' B A ss:=fun k hk=>by
 obtain ⟨ad,e,hl,hc⟩:=h k hk;exact ⟨ad,e,hl,(hb.cell (by rw [ic];omega)).trans hc⟩
theorem bD.more {w:World} {B B' :Nat} {A:Option Addr} {ss:List ByteArray} (h:bD w B A ss) (hB:B≤B'):bD w B' A ss:=fun k hk=>by
 obtain ⟨ad,e,hl,hc⟩:=h k hk;exact ⟨ad,e,by omega,hc⟩
theorem bD.nil {w:World} {B:Nat} {A:Option Addr} :bD w B A []:=fun k hk=>by simp at hk
def iZ (ss:List ByteArray) (m:Nat):Bool:=ss.any fun s=>decide (m < s.size)
theorem uZ {ss:List ByteArray} {m k:Nat} (hk:k < ss.length) (h:m < ss[k].size):iZ ss m=true:=by
 unfold iZ;rw [List.any_eq_true];exact ⟨ss[k],List.getElem_mem hk,by simpa using h⟩
theorem qX {ss:List ByteArray} {m:Nat} (h:∀ j (hj:j < ss.length),ss[j].size≤m):iZ ss m=false:=by
 unfold iZ;rw [List.any_eq_false];intro s hs;obtain ⟨j,hj,rfl⟩:=List.getElem_of_mem hs;simpa using h j hj
theorem Tryz.Fz:(Tryz.prog.info? 9).map (fun i=>(i.zero,i.size,i.bytes))=some (some (.string ⟨#[]⟩),1,16):=by kernel_rfl
def bI (w:World) (base:Nat) (v:Value) (L:List ByteArray):Prop:=w.ownsRow base 9 1 v L.length (L.map Value.string)
theorem bI.o {w:World} {base:Nat} {v:Value} {L:List ByteArray} (h:bI w base v L):w.ownsRow base 9 1 v L.length (L.map Value.string):=h
theorem bI.nil (w:World) (base:Nat):bI w base (.slice none 0 0) []:=World.ownsRow_nil _ _ _ _
theorem bI.alloc {w:World} {base:Nat} {v:Value} {L:List ByteArray} (h:bI w base v L) (o:Obj):bI (w.alloc o) base v L:=World.ownsRow.alloc h o
theorem bI.below {w w' :World} {base:Nat} {v:Value} {L:List ByteArray} (h:bI w base v L) (hb:Below w.heap.size w w'):bI w' base v L:=
 World.ownsRow.kept (row:=none) h ⟨hb.os,hb.tape,hb.output,hb.size,fun i hi _=>hb.block i hi⟩ (by
  cases hv:v.ownBlock with
  | none=>exact .inl rfl
  | some k=>exact .inr (by simp))
theorem kH (w:World) (base:Nat) (ty:TypeId) (v:Value) (L:List ByteArray) (B:Nat) (A:Option Addr) (n c:Nat) (ss:List ByteArray) (hn:n=ss.length) (hown:bI w base v L) (hr:bD w B A ss) (hlen:L.length+ss.length≤1000000) (hbase:base≤w.heap.size):
   ∃ v' w',(Builtin.append_ #[49,49] ty #[v, .slice A n c]).run Tryz.prog w= .ok v' w' ∧bI w' base v' (L ++ ss)∧w.grownBy w' v.ownBlock∧(v'.ownBlock=v.ownBlock∨v'.ownBlock=some w.heap.size):=by
 subst hn;obtain ⟨i0,hi,hz0,hz1,hz2⟩:=info_parts Tryz.Fz;have h:=hown.o;rcases A with _ | ad
 · have hss:ss= []:=by
     cases ss with
     | nil=>rfl
     | cons s r=>obtain ⟨ad,e,_⟩:=hr 0 (by simp);cases e
   subst hss;refine ⟨v,w,?_,by simpa using hown,World.grownBy.refl w _, .inl rfl⟩;rcases h.2 with ⟨rfl,_⟩ | ⟨g,cap,cur,rfl,_,_,hnc,_⟩
   · simp [Builtin.append_,run_underlying Tryz.underlying49,sizeOf,typeInfo,hi,Builtin.lenOf,Builtin.firstCells]
   · simp [Builtin.append_,run_underlying Tryz.underlying49,sizeOf,typeInfo,hi,Builtin.lenOf,Builtin.firstCells,hnc,storeCells]
 · obtain ⟨v',w',hrun,h2,h3,_,h5⟩:=run_append_own_at (P:=Tryz.prog) w base 49 ty 9 i0 _ 1 16 Tryz.underlying49 hi hz0 hz1 hz2 rfl (by omega) v L.length _ h ad ss.length c (ss.map Value.string) (by simp) (fun j u hu=>by
     have hj:j < ss.length:=(by have:=(List.getElem?_eq_some_iff.1 hu).1;simpa using this);obtain ⟨ad',e,_,hc⟩:=hr j hj;cases e;rw [hc, ← hu,List.getElem?_map,List.getElem?_eq_getElem hj];rfl) (by
     intro u hu;obtain ⟨s,_,rfl⟩:=List.mem_map.1 hu;rfl) (by unfold maxLen;omega) (by omega) hbase
   refine ⟨v',w',hrun,?_,h3,h5⟩;show w'.ownsRow base 9 1 v' (L ++ ss).length ((L ++ ss).map Value.string);simpa using h2
theorem iy {o:Oper} {a:Act} {w:World} {K:Act→World→Prop} {Q:Exit→Act→World→Prop} (s x:Operand) (ho:o.op= .call { callee:= .builtin .append,args:=#[s,x],argTypes:=#[49,49] })
  (base:Nat) (v:Value) (L:List ByteArray) (hs:a.eval s=v) (hown:bI w base v L) (B:Nat) (A:Option Addr) (n c:Nat) (ss:List ByteArray) (hx:a.eval x= .slice A n c) (hn:n=ss.length) (hr:bD w B A ss) (hlen:L.length+ss.length≤1000000) (hbase:base≤w.heap.size)
  (h:∀ v' w',bI w' base v' (L ++ ss)→w.grownBy w' v.ownBlock→(v'.ownBlock=v.ownBlock∨v'.ownBlock=some w.heap.size)→K (a.put o.dst v') w'):o.wp Tryz.prog a w K Q:=by
 obtain ⟨v',w',hrun,h2,h3,h4⟩:=kH w base o.type v L B A n c ss hn hown hr hlen hbase;unfold Oper.wp execOp;simp only [ho,resolve,invoke,builtin,Sem.run_bind,Sem.run_pure,Result.andThen_ok,List.map_toArray,List.map_cons,List.map_nil,hs,hx,hrun];exact h v' w' h2 h3 h4
theorem eX {ops:Array Oper} {rest:List Oper} {o:Oper} {a:Act} {w:World} {Q:Exit→Act→World→Prop} (hgd:o.guard=none) (s x:Operand) (ho:o.op= .call { callee:= .builtin .append,args:=#[s,x],argTypes:=#[49,49] })
  (base:Nat) (v:Value) (L:List ByteArray) (hs:a.eval s=v) (hown:bI w base v L) (B:Nat) (A:Option Addr) (n c:Nat) (ss:List ByteArray) (hx:a.eval x= .slice A n c) (hn:n=ss.length) (hr:bD w B A ss) (hlen:L.length+ss.length≤1000000) (hbase:base≤w.heap.size)
  (h:∀ v' w',bI w' base v' (L ++ ss)→w.grownBy w' v.ownBlock→(v'.ownBlock=v.ownBlock∨v'.ownBlock=some w.heap.size)→wpList Tryz.prog ops Q rest (a.put o.dst v') w'):wpList Tryz.prog ops Q (o :: rest) a w:=
 wpList_plain hgd fun _ hK=>iy s x ho base v L hs hown B A n c ss hx hn hr hlen hbase fun v' w' h2 h3 h4=>hK _ _ (h v' w' h2 h3 h4)
theorem dN {ops:Array Oper} {o:Oper} {a:Act} {w:World} {K:Act→World→Prop} {Q:Exit→Act→World→Prop} {E:Prop} (hgd:o.guard=none) (s x:Operand) (ho:o.op= .call { callee:= .builtin .append,args:=#[s,x],argTypes:=#[49,49] })
  (base:Nat) (v:Value) (L:List ByteArray) (hs:a.eval s=v) (hown:bI w base v L) (B:Nat) (A:Option Addr) (n c:Nat) (ss:List ByteArray) (hx:a.eval x= .slice A n c) (hn:n=ss.length) (hr:bD w B A ss) (hlen:L.length+ss.length≤1000000) (hbase:base≤w.heap.size)
  (h:∀ v' w',bI w' base v' (L ++ ss)→w.grownBy w' v.ownBlock→(v'.ownBlock=v.ownBlock∨v'.ownBlock=some w.heap.size)→K (a.put o.dst v') w'):
  if Region.wanted o (yielded ops a.tmps)=true then Oper.wp Tryz.prog o a w K Q else E:=by
 have hw:Region.wanted o (yielded ops a.tmps)=true:=by simp [Region.wanted,hgd]
 rw [if_pos hw];exact iy s x ho base v L hs hown B A n c ss hx hn hr hlen hbase h
theorem bI.ge {w:World} {base:Nat} {v:Value} {L:List ByteArray} (h:bI w base v L):∀ r,v.ownBlock=some r→base≤r:=fun r hr=>(World.ownsRow.lt h r hr).1
theorem bI.strs {w:World} {base:Nat} {v:Value} {L:List ByteArray} (h:bI w base v L):∃ A c,v= .slice A L.length c∧bD w w.heap.size A L:=by
 rcases Joins.ownsRow_forms h.o with ⟨rfl,h0⟩ | ⟨g,cap,rfl⟩
 · have:L= []:=List.eq_nil_of_length_eq_zero h0;subst this;exact ⟨none,0,rfl,bD.nil⟩
 · refine ⟨_,cap,rfl,fun k hk=>⟨_,rfl,(h.o.lt g rfl).2,?_⟩⟩;exact World.ownsRow.cells h (g:=g) rfl k _ (by rw [List.getElem?_map,List.getElem?_eq_getElem hk];rfl)
theorem ve (w:World) (x:ByteArray) (t:TypeId):bD (w.alloc (.cells #[.string x] t)) (w.heap.size+1) (some ⟨w.heap.size,0,none⟩) [x]:=fun k hk=>by
 have hk:k=0:=by simp at hk;omega
 subst hk;exact ⟨_,rfl,by show w.heap.size < _;omega,by show World.cell? _ ⟨w.heap.size,0,none⟩=_;rw [(Blk.new w #[.string x] t).cell];rfl⟩
theorem bI.lY {w w1 wr w2:World} {v v' :Value} {L L' :List ByteArray} (ho:bI w1 w.heap.size v L) (hb:Below w.heap.size w wr) {o:Obj} (hw:w1=wr.alloc o) (hg:w1.grownBy w2 v.ownBlock) (_h:bI w2 w.heap.size v' L'):Below w.heap.size w w2:=by
 subst hw;have h1:=hb.alloc hb.size o;exact h1.grown hg (by have:=hb.size;simp;omega) (fun r hr=>ho.ge r hr)
theorem oI (D:List ByteArray) (x:ByteArray):(D ++ [x]).filter gy=D.filter gy ++ (if x.size=0 then [] else [x]):=by
 rw [List.filter_append];congr 1;by_cases h:x.size=0
 · simp [gy,h]
 · simp [gy,h]
theorem oJ {D:List ByteArray} {x:ByteArray} (h:x.size≠0):(D ++ [x]).filter gy=D.filter gy ++ [x]:=by rw [oI,if_neg h]
theorem oK {D:List ByteArray} {x:ByteArray} (h:x.size=0):(D ++ [x]).filter gy=D.filter gy:=by rw [oI,if_pos h,List.append_nil]
def FB (s:ByteArray) (w:World) (e:Ending) (w' :World):Prop:=∃ (v:Value) (L:List ByteArray) (a b:Bool),e= .returned (.tuple #[v, .bool a, .bool b])∧IsW 47 s L∧bI w' w.heap.size v (L.filter gy)∧Below w.heap.size w w'
theorem yu (D:List ByteArray):(D.filter gy).length≤D.length:=List.length_filter_le _ _
theorem vg (s:ByteArray) (w:World) (hs:s.size≤100000):Calls Tryz.prog 192 #[.string s] w (FB s w):=by
 go_in;go_wp2_with fail;go_loopw [5,6,7] (fun v m i wr=>∃ (D:List ByteArray) (mk ik:Nat),m= .int .i64 (mk:Int)∧i= .int .i64 (ik:Int)∧bI wr w.heap.size v (D.filter gy)∧Below w.heap.size w wr∧Hid ((ik≤s.size∧gT 47 s D mk ik)∨(ik=s.size+1∧IsW 47 s D))∧D.length≤100001∧mk≤s.size+1) (fun _ _ i _=>s.size+2 - (intOf i).toNat);case atStart=>exact ⟨[],0,0,rfl,rfl,bI.nil _ _,Below.refl _ _,Hd (.inl ⟨Nat.zero_le _,gT.start 47 s⟩),by simp,by omega⟩
 case round=>
  obtain ⟨D,mk,ik,rfl,rfl,hown,hb,hst,hD,hm⟩:=hrel;have hfl:=yu D;by_cases hle:ik≤s.size
  · have hc:gT 47 s D mk ik:=by
      rcases hst.o with ⟨_,h⟩ | ⟨h,_⟩
      · exact h
      · omega
    have h1:=hc.le;have h3:=hc.count;have HST:=Hd hc;clear hst hc;by_cases hlt:ik < s.size
    · have n1:((ik:Int) == (s.size:Int))=false:=(by rw [beq_eq_false_iff_ne];omega);by_cases hcc:s[ik]=47
      · have t1:((s[ik].toNat:Int) == 47)=true:=(by rw [hcc];rfl);have HC:=Hd (HST.o.cut hlt hcc);clear hcc;by_cases hem:mk < ik
        · have HF:=Hd (oJ (D:=D) (x:=s.extract mk ik) (by rw [ByteArray.size_extract];omega));go_wp2_with (at_builtin;refine eX rfl (.tmp 27) (.tmp 32) rfl w.heap.size _ (D.filter gy) rfl (hown.alloc _) (wr.heap.size+1) (some ⟨wr.heap.size,0,none⟩) 1 1 [s.extract mk ik] rfl rfl (ve wr _ 9) (by simp;omega) (by have:=hb.size;simp;omega) ?_;intro v4 w4 rT hg4 yw);have hb4:=bI.lY (hown.alloc _) hb rfl hg4 rT;clear hg4 yw hb hown;go_wp2_with fail;go_roundw;case rel=>exact ⟨D ++ [s.extract mk ik],ik+1,ik+1,by go_num,by go_num,by rw [HF.o];exact rT,hb4,Hd (.inl ⟨by omega,HC.o⟩),by rw [List.length_append,List.length_singleton];omega,by omega⟩
          case measure=>simp [intOf];omega
        · have HF:=Hd (oK (D:=D) (x:=s.extract mk ik) (by rw [ByteArray.size_extract];omega));go_wp2_with fail;go_roundw;case rel=>exact ⟨D ++ [s.extract mk ik],ik+1,ik+1,by go_num,by go_num,by rw [HF.o];exact hown,hb,Hd (.inl ⟨by omega,HC.o⟩),by rw [List.length_append,List.length_singleton];omega,by omega⟩
          case measure=>simp [intOf];omega
      · have t1:((s[ik].toNat:Int) == 47)=false:=by
          rw [beq_eq_false_iff_ne];intro e;exact hcc (UInt8.toNat_inj.1 (by show s[ik].toNat=47;omega))
        have HC:=Hd (HST.o.next hlt hcc);clear hcc;go_wp2_with fail;go_roundw;case rel=>exact ⟨D,mk,ik+1,rfl,by go_num,hown,hb,Hd (.inl ⟨by omega,HC.o⟩),hD,hm⟩
        case measure=>simp [intOf];omega
    · obtain rfl:ik=s.size:=(by omega);have n1:((s.size:Int) == (s.size:Int))=true:=(by simp);have HC:=Hd HST.o.done;by_cases hem:mk < s.size
      · have HF:=Hd (oJ (D:=D) (x:=s.extract mk s.size) (by rw [ByteArray.size_extract];omega));go_wp2_with (at_builtin;refine eX rfl (.tmp 27) (.tmp 32) rfl w.heap.size _ (D.filter gy) rfl (hown.alloc _) (wr.heap.size+1) (some ⟨wr.heap.size,0,none⟩) 1 1 [s.extract mk s.size] rfl rfl (ve wr _ 9) (by simp;omega) (by have:=hb.size;simp;omega) ?_;intro v4 w4 rT hg4 yw);have hb4:=bI.lY (hown.alloc _) hb rfl hg4 rT;clear hg4 yw hb hown;go_wp2_with fail;go_roundw;case rel=>exact ⟨D ++ [s.extract mk s.size],s.size+1,s.size+1,by go_num,by go_num,by rw [HF.o];exact rT,hb4,Hd (.inr ⟨rfl,HC.o⟩),by rw [List.length_append,List.length_singleton];omega,by omega⟩
        case measure=>simp [intOf]
      · have HF:=Hd (oK (D:=D) (x:=s.extract mk s.size) (by rw [ByteArray.size_extract];omega));go_wp2_with fail;go_roundw;case rel=>exact ⟨D ++ [s.extract mk s.size],s.size+1,s.size+1,by go_num,by go_num,by rw [HF.o];exact hown,hb,Hd (.inr ⟨rfl,HC.o⟩),by rw [List.length_append,List.length_singleton];omega,by omega⟩
        case measure=>simp [intOf]
  · have hw:IsW 47 s D:=by
      rcases hst.o with ⟨h,_⟩ | ⟨_,h⟩
      · omega
      · exact h
    have HW:=Hd hw;clear hst hw;go_wp2_with fail;by_cases hz:0 < s.size
    · have d1:decide ((0:Int) < (s.size:Int))=true:=decide_eq_true (by omega);have z0:(0:Int) < (s.size:Int):=(by omega);have z1:(1:Int)≤(s.size:Int):=(by omega);have z2:s.size - 1 < s.size:=(by omega);have c0:(0:Int)≤(s.size:Int) - 1:=(by omega);have c1:(s.size:Int) - 1 < (s.size:Int):=(by omega);have c2:IntKind.i64.wrap ((s.size:Int) - 1)=(s.size:Int) - 1:=IntWalk.i64_in _ (by omega);have c3:((s.size:Int) - 1).toNat=s.size - 1:=(by omega);go_quiet (fail);go_wp2_with fail;refine bodyPost_ret (v:= .tuple #[_, .bool _, .bool _]) (by simp [results,Tryz.results192,go_sem];exact ⟨rfl,rfl,rfl⟩) rfl ?_;exact ⟨_,D,_,_,rfl,HW.o,hown.below (below_drewN (Below.refl _ _) _),below_drewN hb _⟩
    · have d1:decide ((0:Int) < (s.size:Int))=false:=decide_eq_false (by omega);go_quiet (fail);go_wp2_with fail;refine bodyPost_ret (v:= .tuple #[_, .bool _, .bool _]) (by simp [results,Tryz.results192,go_sem];exact ⟨rfl,rfl,rfl⟩) rfl ?_;exact ⟨_,D,_,_,rfl,HW.o,hown.below (below_drewN (Below.refl _ _) _),below_drewN hb _⟩
open Go
section
variable {P:Program} {ops:Array Oper} {Q:Exit→Act→World→Prop} {md:Region.Mode} {S:World→Prop}
def lZ (md:Region.Mode) (ops:Array Oper):Nat→Nat→Nat→Bool
 | 0,r,j=>r == j
 | f+1,r,j=>r == j || ((ops[j]?).map fun o=>o.after.toList.any fun e=>Region.binds md e && lZ md ops f r e.on).getD false
def qY (md:Region.Mode) (ops:Array Oper) (p:Nat→Bool) (j:Nat):Bool:=((ops[j]?).map fun o=>o.after.toList.all fun e=> !Region.binds md e || p e.on).getD false
def qZ (md:Region.Mode) (ops:Array Oper) (listed:Array Bool) (rem:List Nat):Bool:=
 listed.size == ops.size && rem.all (fun i=>decide (i < ops.size) && !listed.getD i true) &&
 (List.range ops.size).all (fun i=> !listed.getD i false || qY md ops (fun k=>listed.getD k false) i) &&
 rem.all (fun i=>qY md ops (fun k=>decide (k < i) && (listed.getD k false || rem.contains k)) i) &&
 (List.range ops.size).all (fun j=>listed.getD j false || rem.contains j || rem.all (fun r=>lZ md ops 8 r j)) && decide rem.Nodup
theorem kK {p:Nat→Bool} {j:Nat} (h:qY md ops p j=true):∃ o,ops[j]? =some o∧∀ e∈o.after,Region.binds md e=true→p e.on=true:=by
 unfold qY at h;cases ho:ops[j]? with
 | none=>rw [ho] at h;cases h
 | some o=>
  rw [ho] at h;refine ⟨o,rfl,fun e he hb=>?_⟩;have h1:=List.all_eq_true.1 h e (Array.mem_toList_iff.2 he);rw [hb] at h1;simpa using h1
theorem nz {listed:Array Bool} (hc:∀ i,listed.getD i false=true→∃ o,ops[i]? =some o∧∀ e∈o.after,Region.binds md e=true→listed.getD e.on false=true):
  ∀ (f r j:Nat),lZ md ops f r j=true→listed.getD j false=true→listed.getD r false=true:=by
 intro f;induction f with
 | zero=>intro r j h hj;have:=eq_of_beq h;subst this;exact hj
 | succ f ih=>
  intro r j h hj;unfold lZ at h;rcases Bool.or_eq_true_iff.1 h with h | h
  · have:=eq_of_beq h;subst this;exact hj
  · obtain ⟨o,ho,hall⟩:=hc j hj;rw [ho] at h;obtain ⟨e,he,hb⟩:=List.any_eq_true.1 h;obtain ⟨hb1,hb2⟩:=Bool.and_eq_true_iff.1 hb;exact ih r e.on hb2 (hall e (Array.mem_toList_iff.1 he) hb1)
theorem oM {listed:Array Bool} (hc:∀ i,listed.getD i false=true→∃ o,ops[i]? =some o∧∀ e∈o.after,Region.binds md e=true→listed.getD e.on false=true)
   {r j:Nat} (hne:r≠j) (hr:lZ md ops 8 r j=true) {o:Oper} (ho:ops[j]? =some o) (hall:∀ e∈o.after,Region.binds md e=true→listed.getD e.on false=true):listed.getD r false=true:=by
 unfold lZ at hr;rcases Bool.or_eq_true_iff.1 hr with h | h
 · exact absurd (eq_of_beq h) hne
 · rw [ho] at h;obtain ⟨e,he,hb⟩:=List.any_eq_true.1 h;obtain ⟨hb1,hb2⟩:=Bool.and_eq_true_iff.1 hb;exact nz hc 7 r e.on hb2 (hall e (Array.mem_toList_iff.1 he) hb1)
theorem ko (l:Array Bool) (i j:Nat) (d:Bool):(l.setIfInBounds i true).getD j d=if i=j∧i < l.size then true else l.getD j d:=by
 simp only [Array.getD_eq_getD_getElem?,Array.getElem?_setIfInBounds];by_cases h:i=j
 · subst h;by_cases h2:i < l.size
   · simp [h2]
   · simp [h2]
 · simp [h]
theorem rU (rem:List Nat) (l:Array Bool) (j:Nat):(rem.foldl (fun l i=>l.setIfInBounds i true) l)[j]? =if j∈rem∧j < l.size then some true else l[j]? :=by
 induction rem generalizing l with
 | nil=>simp
 | cons x rem ih=>
  rw [List.foldl_cons,ih,Array.size_setIfInBounds,Array.getElem?_setIfInBounds];by_cases h1:j < l.size
  · by_cases h2:j∈rem
    · simp [h1,h2]
    · by_cases h3:x=j
      · subst h3;simp [h1,h2]
      · simp [h1,h2,h3,Ne.symm h3]
  · by_cases h3:x=j
    · subst h3;simp [h1]
    · simp [h1,h3]
theorem qd (rem:List Nat) (J:World→Prop) (V:Nat→Value→World→Prop) (A:(Nat→Value)→Act) (bV:Array Bool) (fuel' nA:Nat) (hfu:nA=fuel' +rem.length)
  (hok:qZ md ops bV rem=true)
  (hput:∀ i o u v,ops[i]? =some o→i∈rem→(A u).put o.dst v=A (fun j=>if j=i then v else u j))
  (hstep:∀ i o u w,ops[i]? =some o→i∈rem→S w→J w→(∀ e∈o.after,Region.binds md e=true→e.on∈rem→V e.on (u e.on) w)→
    wpOp P ops Q i (fun a' w' =>∃ v,a' =(A u).put o.dst v∧V i v w' ∧S w' ∧J w' ∧∀ j∈rem,∀ x,V j x w→V j x w') (A u) w)
  (u0:Nat→Value) (w:World) (hS:S w) (hJ:J w)
  (hend:∀ u w,S w→J w→(∀ i∈rem,V i (u i) w)→wpAnyH P md ops Q S fuel' (rem.foldl (fun l i=>l.setIfInBounds i true) bV) (A u) w):
  wpAnyH P md ops Q S nA bV (A u0) w:=by
 subst hfu;unfold qZ at hok;simp only [Bool.and_eq_true,List.all_eq_true,List.mem_range,Bool.or_eq_true,Bool.not_eq_true',decide_eq_true_eq,beq_iff_eq,List.contains_iff_mem] at hok;obtain ⟨⟨⟨⟨⟨hsz,JW⟩,hcl⟩,hpre⟩,hoth⟩,hnd⟩:=hok
 suffices H:∀ (c:Nat) (left:List Nat) (listed:Array Bool) (u:Nat→Value) (w:World),left.Nodup→left.length=c→(∀ i,i∈left→i∈rem)→listed.size=ops.size→
    (∀ i,listed.getD i false=true→∃ o,ops[i]? =some o∧∀ e∈o.after,Region.binds md e=true→listed.getD e.on false=true)→
    (∀ i,i ∉ rem→listed[i]? =bV[i]?)→(∀ i∈rem,listed.getD i false= !left.contains i)→(∀ i∈rem,i ∉ left→V i (u i) w)→S w→J w→
    wpAnyH P md ops Q S (fuel' +c) listed (A u) w by
  refine H rem.length rem bV u0 w hnd rfl (fun _ h=>h) hsz ?_ (fun _ _=>rfl) ?_ (fun i h1 h2=>absurd h1 h2) hS hJ
  · intro i hi;have hlt:i < ops.size:=by
      rcases Nat.lt_or_ge i ops.size with h | h
      · exact h
      · rw [Array.getD_eq_getD_getElem?,Array.getElem?_eq_none (by omega)] at hi;cases hi
    rcases hcl i hlt with h | h
    · rw [h] at hi;cases hi
    · exact kK h
  · intro i hi;obtain ⟨h1,h2⟩:=JW i hi;rw [show rem.contains i=true from by simpa using hi];have h3:i < bV.size:=(by omega);simp only [Array.getD_eq_getD_getElem?,Array.getElem?_eq_getElem h3,Option.getD_some] at h2 ⊢;simpa using h2
 intro c;induction c with
 | zero=>
  intro left listed u w _ hlen _ hls _ hout hin hV hS hJ;have hl:left= []:=List.eq_nil_of_length_eq_zero hlen;subst hl;have he:listed=rem.foldl (fun l i=>l.setIfInBounds i true) bV:=by
    apply Array.ext_getElem?;intro i;rw [rU];by_cases hi:i∈rem
    · have h1:=(JW i hi).1;have h2:=hin i hi;have h3:i < listed.size:=(by omega);rw [if_pos ⟨hi,by omega⟩];simp only [Array.getD_eq_getD_getElem?,Array.getElem?_eq_getElem h3,Option.getD_some] at h2 ⊢;rw [h2];rfl
    · rw [if_neg (fun h=>hi h.1)];exact hout i hi
  subst he;exact hend u w hS hJ (fun i hi=>hV i hi (by simp))
 | succ c ih=>
  intro left listed u w hnd hlen hsub hls hcl' hout hin hV hS hJ;have hmin:∃ i,i∈left∧∀ k∈left,i≤k:=by
    have:left≠ []:=(by intro e;subst e;cases hlen);clear hlen hnd hsub hV hin;induction left with
    | nil=>exact absurd rfl this
    | cons x l ih=>
      by_cases hl:l= []
      · subst hl;exact ⟨x,List.mem_cons_self ..,fun k hk=>by rw [List.mem_singleton] at hk;omega⟩
      · obtain ⟨i,h1,h2⟩:=ih hl;by_cases hx:x≤i
        · exact ⟨x,List.mem_cons_self ..,fun k hk=>by rcases List.mem_cons.1 hk with rfl | hk;exact Nat.le_refl _;exact Nat.le_trans hx (h2 k hk)⟩
        · exact ⟨i,List.mem_cons_of_mem _ h1,fun k hk=>by rcases List.mem_cons.1 hk with rfl | hk;omega;exact h2 k hk⟩
  have hun:∀ i∈left,listed.getD i true=false:=fun i hi=>by
    have h1:=hin i (hsub i hi);have h3:i < listed.size:=(by have:=(JW i (hsub i hi)).1;omega);rw [show left.contains i=true from by simpa using hi] at h1;simp only [Array.getD_eq_getD_getElem?,Array.getElem?_eq_getElem h3,Option.getD_some] at h1 ⊢;rw [h1];rfl
  have FE:∃ i,i∈Region.ready md ops listed:=by
    obtain ⟨i,hi,hm⟩:=hmin;obtain ⟨o,ho,hp⟩:=kK (hpre i (hsub i hi));refine ⟨i,mem_ready.2 ⟨hun i hi,o,ho,fun e he hb=>?_⟩⟩;have h1:=hp e he hb;simp only [Bool.and_eq_true,decide_eq_true_eq,Bool.or_eq_true,List.contains_iff_mem] at h1;obtain ⟨hlt,h1⟩:=h1;by_cases hr:e.on∈rem
    · rw [hin _ hr];have:e.on ∉ left:=fun h=>by have:=hm _ h;omega
      simpa using this
    · rcases h1 with h1 | h1
      · rw [Array.getD_eq_getD_getElem?,hout _ hr, ← Array.getD_eq_getD_getElem?];exact h1
      · exact absurd h1 hr
  refine ⟨fun h=>?_,fun i hi=>?_⟩
  · obtain ⟨i,hi⟩:=FE;rw [h] at hi;cases hi
  · obtain ⟨Lv,o,ho,hall⟩:=mem_ready.1 hi;have hlt:i < ops.size:=(Array.getElem?_eq_some_iff.1 ho).1;have hil:i < listed.size:=(by omega);have Lx:listed.getD i false=false:=by
      simp only [Array.getD_eq_getD_getElem?,Array.getElem?_eq_getElem hil,Option.getD_some] at Lv ⊢;exact Lv
    by_cases hir:i∈rem
    · have FJ:i∈left:=by
        have h1:=hin i hir;rw [Lx] at h1;simpa using h1.symm
      refine wpOp_mono ?_ (hstep i o u w ho hir hS hJ (fun e he hb hr=>hV _ hr ?_))
      · rintro a' w' ⟨v,rfl,hv,hS',hJ',hk⟩;refine ⟨hS',?_⟩;rw [hput i o u v ho hir];refine ih (left.erase i) (listed.setIfInBounds i true) _ w' (hnd.erase i) (by rw [List.length_erase_of_mem FJ,hlen];rfl) (fun k hk' =>hsub k (List.mem_of_mem_erase hk')) (by rw [Array.size_setIfInBounds];exact hls) ?_ ?_ ?_ ?_ hS' hJ'
        · intro k hkk;rw [ko] at hkk;split at hkk
          · rename_i h;obtain ⟨rfl,_⟩:=h;exact ⟨o,ho,fun e he hb=>by rw [ko];split;rfl;exact hall e he hb⟩
          · obtain ⟨o',ho',h'⟩:=hcl' k hkk;exact ⟨o',ho',fun e he hb=>by rw [ko];split;rfl;exact h' e he hb⟩
        · intro k hkr;rw [Array.getElem?_setIfInBounds_ne (fun e=>hkr (by rw [← e];exact hir))];exact hout k hkr
        · intro k hkr;rw [ko];by_cases hik:i=k
          · subst hik;rw [if_pos ⟨rfl,hil⟩];have:i ∉ left.erase i:=fun h=>by
              have:=(List.Nodup.mem_erase_iff hnd).1 h;exact this.1 rfl
            simp [this]
          · rw [if_neg (fun h=>hik h.1),hin k hkr];congr 1;have:k∈left.erase i↔k∈left:=List.mem_erase_of_ne (Ne.symm hik);by_cases hkl:k∈left
            · simp [hkl,this]
            · simp [hkl,this]
        · intro k hkr hkl;by_cases hik:k=i
          · subst hik;simp only [if_true];exact hv
          · simp only [hik,if_false];refine hk k hkr _ (hV k hkr (fun h=>hkl ((List.mem_erase_of_ne hik).2 h)))
      · have h1:=hall e he hb;rw [hin _ hr] at h1;simpa using h1
    · exfalso;obtain ⟨r,hr⟩:∃ r,r∈left:=(by obtain ⟨r,hr,_⟩:=hmin;exact ⟨r,hr⟩);have h0:bV.getD i false=false:=by
        rw [Array.getD_eq_getD_getElem?, ← hout i hir, ← Array.getD_eq_getD_getElem?];exact Lx
      rcases hoth i hlt with (h1 | h1) | h1
      · rw [h0] at h1;cases h1
      · exact hir h1
      · have h2:=oM hcl' (fun e=>hir (by rw [← e];exact hsub r hr)) (h1 r (hsub r hr)) ho hall;rw [hin r (hsub r hr),show left.contains r=true from by simpa using hr] at h2;cases h2
end
section
variable {P:Program} {ops:Array Oper} {Q:Exit→Act→World→Prop} {md:Region.Mode} {S J:World→Prop} {V:Nat→Value→World→Prop} {A:(Nat→Value)→Act} {G:World→World→Prop} {all:List Nat}
def vw (md:Region.Mode) (o:Oper) (j:Nat):Bool:=o.after.toList.any fun e=>Region.binds md e && e.on == j
def FK (ops:Array Oper) (A:(Nat→Value)→Act) (rem:List Nat):Prop:=∀ i∈rem,∀ o,ops[i]? =some o→∀ u v,(A u).put o.dst v=A (fun j=>if j=i then v else u j)
def aZ (P:Program) (ops:Array Oper) (Q:Exit→Act→World→Prop) (md:Region.Mode) (S:World→Prop) (J:World→Prop) (V:Nat→Value→World→Prop) (A:(Nat→Value)→Act) (G:World→World→Prop) (all rem:List Nat):Prop:=
 ∀ i∈rem,∀ o,ops[i]? =some o→∀ u w,S w→J w→(∀ j,all.contains j=true→vw md o j=true→V j (u j) w)→∀ K:Act→World→Prop,Shut (∀ v a' w',a' =(A u).put o.dst v→V i v w' →G w w' →K a' w')→
  if Region.wanted o (yielded ops (A u).tmps)=true then Oper.wp P o (A u) w K Q else K ((A u).put o.dst undef) w
theorem aZ.nil:aZ P ops Q md S J V A G all []:=fun _ h=>by cases h
theorem aZ.cons {i:Nat} {o:Oper} {rem:List Nat} (ho:ops[i]? =some o)
   (h:∀ u w,S w→J w→(∀ j,all.contains j=true→vw md o j=true→V j (u j) w)→∀ K:Act→World→Prop,Shut (∀ v a' w',a' =(A u).put o.dst v→V i v w' →G w w' →K a' w')→
    if Region.wanted o (yielded ops (A u).tmps)=true then Oper.wp P o (A u) w K Q else K ((A u).put o.dst undef) w)
   (t:aZ P ops Q md S J V A G all rem):aZ P ops Q md S J V A G all (i :: rem):=fun k hk o' ho' =>by
 rcases List.mem_cons.1 hk with rfl | hk
 · rw [ho] at ho';injection ho' with ho';subst ho';exact h
 · exact t k hk o' ho'
theorem qg (rem:List Nat) (J:World→Prop) (V:Nat→Value→World→Prop) (A:(Nat→Value)→Act) (G:World→World→Prop) {bV:Array Bool} (fuel' :Nat) {nA:Nat} (hfu:nA=fuel' +rem.length)
  (hok:qZ md ops bV rem=true) (hG:∀ w w',G w w' →(S w→S w')∧(J w→J w')∧∀ j x,V j x w→V j x w') (hput:FK ops A rem) (hstep:aZ P ops Q md S J V A G rem rem)
  {a:Act} (u0:Nat→Value) (ha:a=A u0) {w:World} (hS:S w) (hJ:J w)
  (hend:∀ u w,S w→J w→(∀ i,rem.contains i=true→V i (u i) w)→wpAnyH P md ops Q S fuel' (rem.foldl (fun l i=>l.setIfInBounds i true) bV) (A u) w):
  wpAnyH P md ops Q S nA bV a w:=by
 subst ha;refine qd rem J V A bV fuel' nA hfu hok (fun i o u v ho hi=>hput i hi o ho u v) (fun i o u w ho hi hS hJ hpre=>?_) u0 w hS hJ (fun u w hS hJ hV=>hend u w hS hJ (fun i hi=>hV i (by simpa using hi)));refine wpOp_step ho (fun K hK=>hstep i hi o ho u w hS hJ (fun j hj hw=>?_) K (fun v a' w' h0 h1 h3=>hK _ _ ⟨v,h0,h1,(hG w w' h3).1 hS,(hG w w' h3).2.1 hJ,fun j _ x hx=>(hG w w' h3).2.2 j x hx⟩));unfold vw at hw;obtain ⟨e,he,hb⟩:=List.any_eq_true.1 hw;obtain ⟨hb1,hb2⟩:=Bool.and_eq_true_iff.1 hb;have:=eq_of_beq hb2;subst this;exact hpre e (Array.mem_toList_iff.1 he) hb1 (by simpa using hj)
def LA (u:Nat→Value) (k:Nat) (x:Value) (j:Nat):Value:=if j=k then x else u j
theorem oN {u:Nat→Value} {k:Nat} {x:Value} (h:u k=x):LA u k x=u:=by
 funext j;unfold LA;split
 · rename_i e;rw [e];exact h.symm
 · rfl
def bL (a:Act) (ds:List (Nat×Tmp)) (u:Nat→Value):Act:=ds.foldl (fun a p=>a.put (some p.2) (u p.1)) a
theorem bX (a:Act) (p:Nat×Tmp) (ds:List (Nat×Tmp)) (u:Nat→Value):bL a (p :: ds) u=bL (a.put (some p.2) (u p.1)) ds u:=rfl
theorem oO (d:Tmp) (v:Value):∀ (ds:List (Nat×Tmp)) (a:Act) (u:Nat→Value),(∀ p∈ds,p.2≠d)→bL (a.put (some d) v) ds u=(bL a ds u).put (some d) v
 | [],_,_,_=>rfl
 | p :: ds,a,u,h=>by
  rw [bX,bX, ← oO d v ds _ u (fun q hq=>h q (List.mem_cons_of_mem _ hq)),Act.put_comm];intro e he;injection he with he;subst he;intro h2;injection h2 with h2;exact h p (List.mem_cons_self ..) h2
theorem iJ:∀ (ds:List (Nat×Tmp)) (a:Act) (u u' :Nat→Value),(∀ p∈ds,u p.1=u' p.1)→bL a ds u=bL a ds u'
 | [],_,_,_,_=>rfl
 | p :: ds,a,u,u',h=>by
  rw [bX,bX,h p (List.mem_cons_self ..)];exact iJ ds _ u u' (fun q hq=>h q (List.mem_cons_of_mem _ hq))
theorem vB (a:Act) (d:Tmp) (v v' :Value):(a.put (some d) v).put (some d) v' =a.put (some d) v' :=by
 simp [Act.put]
theorem oP (i:Nat) (d:Tmp) (v:Value):∀ (ds:List (Nat×Tmp)) (a:Act) (u:Nat→Value),(ds.map (·.1)).Nodup→(ds.map (·.2)).Nodup→(i,d)∈ds→(bL a ds u).put (some d) v=bL a ds (fun j=>if j=i then v else u j)
 | [],_,_,_,_,h=>by cases h
 | p :: ds,a,u,h1,h2,h=>by
  rw [List.map_cons,List.nodup_cons] at h1 h2;rcases List.mem_cons.1 h with h | h
  · subst h;rw [bX,bX, ← oO d v ds _ u (fun q hq e=>h2.1 (List.mem_map.2 ⟨q,hq,e⟩)),vB,if_pos rfl];exact iJ ds _ _ _ (fun q hq=>by rw [if_neg (fun e=>h1.1 (List.mem_map.2 ⟨q,hq,e⟩))])
  · have hne:p.1≠i:=fun e=>h1.1 (List.mem_map.2 ⟨(i,d),h,e.symm⟩);rw [bX,bX,if_neg hne];exact oP i d v ds _ u h1.2 h2.2 h
theorem yz (a:Act) (d:Tmp):a.put (some d) (a.tmps.getD d undef)=a:=by
 obtain ⟨ts,ds⟩:=a;simp only [Act.put];congr 1;apply Array.ext_getElem?;intro k;rw [Array.getElem?_setIfInBounds];by_cases h:d=k
 · subst h;rw [if_pos rfl];by_cases h2:d < ts.size
   · rw [if_pos h2,Array.getD_eq_getD_getElem?,Array.getElem?_eq_getElem h2];rfl
   · rw [if_neg h2,Array.getElem?_eq_none (Nat.le_of_not_lt h2)]
 · rw [if_neg h]
def LB (a:Act) (ds:List (Nat×Tmp)) (i:Nat):Value:=match ds.find? (fun p=>p.1 == i) with | some p=>a.tmps.getD p.2 undef | none=>undef
theorem l6 (a:Act) (u:Nat→Value):∀ ds:List (Nat×Tmp),(∀ p∈ds,u p.1=a.tmps.getD p.2 undef)→bL a ds u=a
 | [],_=>rfl
 | p :: ds,h=>by
  rw [bX,h p (List.mem_cons_self ..),yz];exact l6 a u ds (fun q hq=>h q (List.mem_cons_of_mem _ hq))
theorem ma:∀ (ds:List (Nat×Tmp)),(ds.map (·.1)).Nodup→∀ p∈ds,ds.find? (fun q=>q.1 == p.1)=some p
 | [],_,_,h=>by cases h
 | x :: ds,h1,p,h=>by
  rw [List.map_cons,List.nodup_cons] at h1;rcases List.mem_cons.1 h with h | h
  · subst h;simp
  · have hne:(x.1 == p.1)=false:=by
     simp only [beq_eq_false_iff_ne,ne_eq];exact fun e=>h1.1 (List.mem_map.2 ⟨p,h,e.symm⟩)
    rw [List.find?_cons,hne];exact ma ds h1.2 p h
def yA (ops:Array Oper) (rem:List Nat) (ds:List (Nat×Tmp)):Bool:=
 rem.all (fun i=>match ops[i]? with | some o=>(match o.dst with | some d=>ds.contains (i,d) | none=>ds.all (fun p=>p.1 != i)) | none=>true) && decide (ds.map (·.1)).Nodup && decide (ds.map (·.2)).Nodup
theorem rV {rem:List Nat} {ds:List (Nat×Tmp)} (h:yA ops rem ds=true) (a:Act):FK ops (bL a ds) rem:=fun i hi o ho u v=>by
 unfold yA at h;simp only [Bool.and_eq_true,decide_eq_true_eq] at h;obtain ⟨⟨h1,h2⟩,h3⟩:=h;have h4:=List.all_eq_true.1 h1 i hi;rw [ho] at h4;simp only at h4;cases hd:o.dst with
 | some d=>
  rw [hd] at h4;exact oP i d v ds a u h2 h3 (by simpa using h4)
 | none=>
  rw [hd] at h4;refine iJ ds a _ _ (fun p hp=>?_);have h5:=List.all_eq_true.1 h4 p hp;rw [if_neg (by simpa using h5)]
theorem bq (rem:List Nat) (ds:List (Nat×Tmp)) (J:World→Prop) (V:Nat→Value→World→Prop) (G:World→World→Prop) {bV:Array Bool} (fuel' :Nat) {nA:Nat} {a:Act} {w:World} (hS:S w) (hJ:J w) (hfu:nA=fuel' +rem.length)
  (hok:qZ md ops bV rem=true) (hds:yA ops rem ds=true) (hG:∀ w w',G w w' →(S w→S w')∧(J w→J w')∧∀ j x,V j x w→V j x w') (hstep:aZ P ops Q md S J V (bL a ds) G rem rem)
  (hend:∀ u w,S w→J w→(∀ i,rem.contains i=true→V i (u i) w)→wpAnyH P md ops Q S fuel' (rem.foldl (fun l i=>l.setIfInBounds i true) bV) (bL a ds u) w):
  wpAnyH P md ops Q S nA bV a w:=by
 refine qg rem J V (bL a ds) G fuel' hfu hok hG (rV hds a) hstep (LB a ds) (l6 a _ ds (fun p hp=>?_)).symm hS hJ hend;have h1:(ds.map (·.1)).Nodup:=by
  unfold yA at hds;simp only [Bool.and_eq_true,decide_eq_true_eq] at hds;exact hds.1.2
 unfold LB;rw [ma ds h1 p hp]
end
def dl (n:Nat):Nat:=(Lib.decDigits n).length
structure Tst where
 fd:Int
 op:Int
 nu:Int
 tx:ByteArray
 ot:Int
structure Rul where
 li:Int
 ac:Int
 ca:Nat
 ts:List Tst
 wa:Int
 pa:ByteArray
 pe:Int
 ke:ByteArray
def Kt:Rul:=⟨0,0,0, [],0,⟨#[]⟩,0,⟨#[]⟩⟩
def Tst.ev (c:Ctx) (is:List Itm) (t:Tst):Bool:=uW c is t.fd t.op t.nu t.tx t.ot
def o9 (c:Ctx) (n:Int) (is:List Itm) (hit:Bool) (r:Rul):Bool:=(r.ca == 0 || hasB r.ca n) && ((r.wa == 0 || hit) && r.ts.all (Tst.ev c is))
def wh (rs:List Rul) (l:Int) (c:Ctx) (n:Int) (is:List Itm):Option Nat:=rs.findIdx? fun r=>r.li == l && o9 c n is false r
def nU (t:Int):Bool:=t == 1005 || t == 1300 || t == 1306 || t == 1307 || t == 1302 || t == 1309
def kQ (rs:List Rul) (c:Ctx) (n:Int) (is:List Itm) (t:Int):Bool:=
 nU t && match wh rs 5 { c with ty:=t } n is with | some i=>(rs[i]?.map (fun r=>r.ac == 1)).getD false | none=>false
end Go.Proofs.YtollifnnpihfdaaGreatDoor
