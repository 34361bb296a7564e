import Derived.Test.YtollifnnpihfdaaGreatDoorX29
import Derived.Test.YtollifnnpihfdaaGreatDoorRows
import Derived.Test.YtollifnnpihfdaaGreatDoorX27
set_option maxRecDepth 100000
set_option maxHeartbeats 64000000
set_option linter.all false
namespace Go.Proofs.YtollifnnpihfdaaGreatDoor
open Go.ChangeShapes Go.WideShapes Go.RowKit Go.Joins Go.Deep
theorem chunks {α:Type} {c:Nat} :∀ {L:List (List α)} {cs:List α},cs.length=L.length * c→(∀ i (hi:i < L.length),(cs.drop (i * c)).take c=L[i])→cs=L.flatten
 | [],cs,h,_=>by simp at h;simp [h]
 | x :: L,cs,h,hi=>by
  have h0:=hi 0 (by simp);simp at h0;have hr:cs.drop c=L.flatten:=chunks (c:=c) (by rw [List.length_drop,h,List.length_cons,Nat.add_mul];omega) (fun i hlt=>by
   have:=hi (i+1) (by simp;omega);rw [List.drop_drop,show c+i * c=(i+1) * c by rw [Nat.add_mul];omega];simpa using this)
  rw [List.flatten_cons, ← hr, ← h0,List.take_append_drop]
section
variable {H:Type} {enc:TypeId×Value→H} {P:Program} {w:World} {base:Nat} {sp:Nat→Bool} {held:Bool}
theorem o7 {cs:List Value} {j:Nat} {v:Value} (h:(cs.drop j).take 1= [v]):cs[j]? =some v:=by
 have:=congrArg (·[0]?) h;simpa [List.getElem?_take,List.getElem?_drop] using this
theorem aH {fuel:Nat} {t:TypeId} {f0 f1 f2 f3 f4:Field} {k:IntKind} {cs:List Value} {l:List UInt8} {a b c d:Int} {p:List MemPlace} (hs:P.underlying t=some (.struct #[f0,f1,f2,f3,f4])) (hone:oneCellFields P #[f0,f1,f2,f3,f4]=true) (hC:P.cellsOf t=5)
  (h0:P.underlying f0.type=some .string) (h1:P.underlying f1.type=some (.int k)) (h2:P.underlying f2.type=some (.int k)) (h3:P.underlying f3.type=some (.int k)) (h4:P.underlying f4.type=some (.int k))
  (h:DataW.trod enc P w base sp held fuel t cs=some (.agg [.lit (.string l), .lit (.int k a), .lit (.int k b), .lit (.int k c), .lit (.int k d)],p)):cs= [.string ⟨l.toArray⟩, .int k a, .int k b, .int k c, .int k d]:=by
 obtain ⟨xs,n,_,hx,hl,hlen,hg⟩:=DataW.trod_struct hs h;obtain ⟨o0,k0⟩:=hone_of hone 0 f0 rfl;obtain ⟨o1,k1⟩:=hone_of hone 1 f1 rfl;obtain ⟨o2,k2⟩:=hone_of hone 2 f2 rfl;obtain ⟨o3,k3⟩:=hone_of hone 3 f3 rfl;obtain ⟨o4,k4⟩:=hone_of hone 4 f4 rfl
 match xs,hlen with
 | [y0,y1,y2,y3,y4],_=>
  simp only [Prod.mk.injEq] at hx;have hx1:=hx.1;simp at hx1;obtain ⟨e0,e1,e2,e3,e4⟩:=hx1;have g0:=hg 0 f0 rfl;have g1:=hg 1 f1 rfl;have g2:=hg 2 f2 rfl;have g3:=hg 3 f3 rfl;have g4:=hg 4 f4 rfl;rw [o0,k0] at g0;rw [o1,k1] at g1;rw [o2,k2] at g2;rw [o3,k3] at g3;rw [o4,k4] at g4;simp only [List.getElem?_cons_zero,List.getElem?_cons_succ] at g0 g1 g2 g3 g4;obtain ⟨s,c0,z0,_⟩:=DataW.trod_string h0 g0;obtain ⟨n1,c1,z1,_⟩:=DataW.trod_int h1 g1;obtain ⟨n2,c2,z2,_⟩:=DataW.trod_int h2 g2;obtain ⟨n3,c3,z3,_⟩:=DataW.trod_int h3 g3;obtain ⟨n4,c4,z4,_⟩:=DataW.trod_int h4 g4;rw [z0] at e0;rw [z1] at e1;rw [z2] at e2;rw [z3] at e3;rw [z4] at e4;simp at e0 e1 e2 e3 e4;have q0:=o7 c0;have q1:=o7 c1;have q2:=o7 c2;have q3:=o7 c3;have q4:=o7 c4;subst e1 e2 e3 e4;have es:s=⟨l.toArray⟩:=by rw [e0]
  subst es
  match cs,hl.trans hC with
  | [x0,x1,x2,x3,x4],_=>
   simp at q0 q1 q2 q3 q4;rw [q0,q1,q2,q3,q4]
theorem vZ {fuel n c:Nat} {t e:TypeId} {cs:List Value} {ds:List (DataW H)} {p:List MemPlace} {L:List (List Value)} (ht:P.underlying t=some (.array n e)) (hce:P.cellsOf e=c) (hct:P.cellsOf t=n * c) (hL:L.length=n)
  (h:DataW.trod enc P w base sp held fuel t cs=some (.agg ds,p))
  (hel:∀ i (hi:i < L.length) m cs' d q,ds[i]? =some d→DataW.trod enc P w base sp held m e cs' =some (d,q)→cs' =L[i]):cs=L.flatten:=by
 obtain ⟨xs,m,_,hx,hl,hlen,hg⟩:=DataW.trod_array ht h;simp only [Prod.mk.injEq] at hx;have hx1:=hx.1;simp at hx1;refine chunks (c:=c) (by rw [hl,hct,hL]) fun i hi=>?_;have:=hg i (by omega);rw [hce] at this;have hxi:xs[i]? =some (xs[i]'(by omega)):=List.getElem?_eq_getElem (by omega);rw [hxi] at this;exact hel i hi m _ _ _ (by rw [hx1,List.getElem?_map,hxi];rfl) this
theorem o8 {P:Program} {W:World} {laid:List (String×DataW Unit)} {name:String} {ds:List (DataW Unit)} {g n c:Nat} {t e:TypeId} {L:List (List Value)} {cs:Array Value} (i:Nat)
   (hpl:(laid.all fun x=>x.2.handleName?.isNone)=true) (h:laidMetH P laid W) (hi:laid[i]? =some (name, .agg ds))
   (hg:P.globalNamed name=some g) (hty:(P.globals[g]?).map (·.type)=some t) (ht:P.underlying t=some (.array n e)) (hce:P.cellsOf e=c) (hct:P.cellsOf t=n * c) (hL:L.length=n) (hcs:cs=L.flatten.toArray)
   (hel:∀ (w:World) i (hi:i < L.length) m cs' d q,ds[i]? =some d→DataW.trod (fun _=>()) P w 0 (fun _=>true) false m e cs' =some (d,q)→cs' =L[i]):sS W g cs:=by
 rw [MakeChecks.laidMetH_plain _ _ _ hpl] at h;obtain ⟨ps,hv,_⟩:=h;obtain ⟨g',t',cs',fuel,p,hg',ht',hvar,hd⟩:=sP hv i name _ hi;obtain rfl:=Option.some.inj (hg.symm.trans hg');obtain rfl:=Option.some.inj (hty.symm.trans ht');have hc:=vZ ht hce hct hL hd (hel W);unfold World.var? at hvar;rw [hg] at hvar;simp only [Option.bind_some] at hvar;split at hvar
 · rename_i cs2 tt fr he;injection hvar with hvar;subst hvar;refine ⟨tt,fr,by rw [he,hcs, ← hc]⟩
 · cases hvar
end
def ETs:El Tst where
 C t:=(Aq t).toList
 e:=85
 sl:=86
 sz:=5
 bs:=48
 len _:=rfl
 one t u hu:=by
  have:=CB t;rw [← Array.all_toList,List.all_eq_true] at this;exact this u hu
 pos:=by omega
 small:=by omega
 hu:=Tryz.underlying86
 info:=by
  obtain ⟨i0,h1,h2,h3,h4⟩:=info_parts Tryz.Ku;exact ⟨i0,_,h1,h2,h3,h4,rfl⟩
theorem Gs {w:World} {B:Nat} {A:Option Addr} {ts:List Tst} :eO w B A ts↔AtE ETs w B A ts:=by
 have e:∀ (t:Tst) (j:Nat),(ETs.C t)[j]? =(Aq t)[j]? :=fun t j=>by
   show (Aq t).toList[j]? =_;rw [Array.getElem?_toList]
 constructor
 · intro h k hk;obtain ⟨ad,h1,h2,h3⟩:=h k hk;exact ⟨ad,h1,h2,fun j hj=>(h3 j hj).trans (e _ _).symm⟩
 · intro h k hk;obtain ⟨ad,h1,h2,h3⟩:=h k hk;exact ⟨ad,h1,h2,fun j hj=>(h3 j hj).trans (e _ _)⟩
structure Ru where
 r:Rul
 A:Option Addr
 c:Nat
abbrev Ru.sl (x:Ru):Value:= .slice x.A x.r.ts.length x.c
theorem Tryz.Gt:(Tryz.prog.info? 90).map (fun i=>(i.zero,i.size,i.bytes))=some (some (.agg (pM Kt noT)),8,96):=by kernel_rfl
def ERu:El Ru where
 C x:= [.int .i64 x.r.li, .int .i64 x.r.ac, .int .u64 (x.r.ca:Int), .slice x.A x.r.ts.length x.c, .int .i64 x.r.wa, .string x.r.pa, .int .i64 x.r.pe, .string x.r.ke]
 e:=90
 sl:=38
 sz:=8
 bs:=96
 len _:=rfl
 one x u hu:=by simp at hu;rcases hu with rfl | rfl | rfl | rfl | rfl | rfl | rfl | rfl <;> rfl
 pos:=by omega
 small:=by omega
 hu:=Tryz.underlying38
 info:=by
  obtain ⟨i0,h1,h2,h3,h4⟩:=info_parts Tryz.Gt;exact ⟨i0,_,h1,h2,h3,h4,rfl⟩
theorem nM {w:World} {a:Addr} {x:Ru} (h:∀ j,j < 8→w.cell? (a.add j)=(ERu.C x)[j]?):
  w.cell? a=some (.int .i64 x.r.li)∧w.cell? ⟨a.block,a.off+1,none⟩=some (.int .i64 x.r.ac)∧w.cell? ⟨a.block,a.off+2,none⟩=some (.int .u64 (x.r.ca:Int))∧w.cell? ⟨a.block,a.off+3,none⟩=some (.slice x.A x.r.ts.length x.c)∧w.cell? ⟨a.block,a.off+4,none⟩=some (.int .i64 x.r.wa)∧w.cell? ⟨a.block,a.off+5,none⟩=some (.string x.r.pa)∧w.cell? ⟨a.block,a.off+6,none⟩=some (.int .i64 x.r.pe)∧w.cell? ⟨a.block,a.off+7,none⟩=some (.string x.r.ke):=
 ⟨h 0 (by omega),h 1 (by omega),h 2 (by omega),h 3 (by omega),h 4 (by omega),h 5 (by omega),h 6 (by omega),h 7 (by omega)⟩
def GdR (r:Rul):Prop:=MkR r∧r.ts.length≤3
structure lC (w:World) (B:Nat) (A:Option Addr) (xs:List Ru):Prop where
 at_:AtE ERu w B A xs
 few:xs.length≤1000
 ts:∀ x∈xs,eO w B x.A x.r.ts∧GdR x.r
section
variable {w w' :World} {B B' base:Nat} {A:Option Addr} {v v' :Value} {xs:List Ru}
theorem lC.keep (h:lC w B A xs) (hb:Below B' w w') (hB:B≤B'):lC w' B A xs:=⟨h.at_.keep hb hB,h.few,fun x hx=>⟨(h.ts x hx).1.keep hb hB,(h.ts x hx).2⟩⟩
theorem lC.more (h:lC w B A xs) (hB:B≤B'):lC w B' A xs:=⟨h.at_.more hB,h.few,fun x hx=>⟨(h.ts x hx).1.more hB,(h.ts x hx).2⟩⟩
theorem lC.below (h:lC w w.heap.size A xs) (hb:Below w.heap.size w w'):lC w' w'.heap.size A xs:=(h.keep hb (Nat.le_refl _)).more hb.size
end
theorem nO {P:Program} {w:World} {a:Addr} {ty:TypeId} {cs:Array Value} {d:TypeDesc} (h:∀ j v,cs.toList[j]? =some v→w.cell? (a.add j)=some v)
  (hu:P.underlying ty=some d) (hd:(match d with | .struct _ | .array _ _=>true | _=>false)=true) (hi:(P.info? ty).map (·.size)=some cs.size):
  (loadVar ty a).run P w= .ok (.agg cs) w:=by
 have hl:(loadCells a cs.toList.length).run P w= .ok cs.toList.toArray w:=run_loadCells_list (P:=P) w a cs.toList h;cases hq:P.info? ty with
 | none=>simp [hq] at hi
 | some i=>
  have hs:i.size=cs.size:=by simpa [hq] using hi
  have hagg:(isAgg ty).run P w= .ok true w:=by
   unfold isAgg;rw [Sem.run_bind,run_underlying hu w];cases d <;> simp_all
  simp only [Array.length_toList,Array.toArray_toList] at hl;simp [loadVar,Sem.run_bind,hagg,sizeOf,typeInfo,hq,hs,hl]
theorem qm {w:World} {g:Nat} {fd op nu:Int} {tx:ByteArray} {ot:Int} (h:jR w g fd op nu tx ot):(loadVar 85 ⟨g,0,none⟩).run Tryz.prog w= .ok (.agg (aV fd op nu tx ot)) w:=run_loadVar_row w g _ _ _ _ _ h Tryz.underlying85 rfl (uX _ _ _ _ _)
theorem CG {w:World} {a:Addr} {i:Itm} {r:bB} (h:∀ j,j < 13→w.cell? (a.add j)=(aO i r)[j]?):(loadVar 73 a).run Tryz.prog w= .ok (.agg (aO i r)) w:=
 nO (fun j v hv=>by
  have hj:j < 13:=by
   rcases Nat.lt_or_ge j 13 with hj | hj
   · exact hj
   · rw [List.getElem?_eq_none (by show 13≤j;exact hj)] at hv;cases hv
  rw [h j hj];simpa using hv) Tryz.underlying73 rfl (iH _ _)
theorem CJ (x y:Int):(Tryz.prog.info? 44).map (·.size)=some (#[Value.int .i64 x, .int .i64 y]:Array Value).size:=by show _=some 2;kernel_rfl
theorem CK {w:World} {b o:Nat} {x y:Int} (h5:w.cell? ⟨b,o,none⟩=some (.int .i64 x)) (h6:w.cell? ⟨b,o+1,none⟩=some (.int .i64 y)):(loadVar 44 ⟨b,o,none⟩).run Tryz.prog w= .ok (.agg #[.int .i64 x, .int .i64 y]) w:=
 nO (fun j v hv=>by
  match j with
  | 0=>simp at hv;subst hv;exact h5
  | 1=>simp at hv;subst hv;exact h6
  | j+2=>simp at hv) Tryz.underlying44 rfl (CJ _ _)
theorem NB (a:Addr) (w:World):(loadVar 52 a).run Tryz.prog w=(load a).run Tryz.prog w:=by
 unfold loadVar;simp [go_sem]
attribute [local irreducible] bE jQ pX fK oH qV uW Cb
attribute [-go_sem] loadVar
attribute [local go_sem] xD xE NB
end Go.Proofs.YtollifnnpihfdaaGreatDoor
namespace Go.Proofs.YtollifnnpihfdaaGreatDoor
open Go.RowKit
theorem bU.num {w:World} {g:Nat} {c:Ctx} {r:bN} {it:Value} (h:bU w g c r it):w.cell? ⟨g,15,none⟩=some (.int .i64 r.n):=h.cell 15
theorem nP (c:Ctx) (r:bN) (it:Value) (t:Int):(bE c r it).setIfInBounds 24 (.int .i64 t)=bE { c with ty:=t } r it:=rfl
structure MtB (w W:World) (r:Rul) (v:Value) (c:Ctx) (cr:bN) (it:Value):Prop where
 R:xC W w.heap.size r v
 C:bU W (w.heap.size+1) c cr it
 low:Below w.heap.size w W
theorem MtB.start (w:World) (r:Rul) (v:Value) (c:Ctx) (cr:bN) (it:Value):MtB w ((w.alloc (.cells (pM r v) 90)).alloc (.cells (bE c cr it) 54)) r v c cr it:=
 ⟨(Blk.new w _ _).alloc _,by have:=Blk.new (w.alloc (.cells (pM r v) 90)) (bE c cr it) 54;simpa using this,((Below.refl _ _).alloc (Nat.le_refl _) _).alloc (by simp) _⟩
theorem MtB.below {w W W' :World} {r:Rul} {v:Value} {c:Ctx} {cr:bN} {it:Value} (h:MtB w W r v c cr it) (hb:Below W.heap.size W W'):MtB w W' r v c cr it:=⟨h.R.below hb,h.C.below hb,aa h.low hb⟩
def wo (b:Bool) (w:World) (e:Ending) (w' :World):Prop:=e= .returned (.bool b)∧Below w.heap.size w w'
theorem CL (a:Addr) (w:World):(loadVar 86 a).run Tryz.prog w=(load a).run Tryz.prog w:=by
 unfold loadVar;simp [go_sem]
theorem CO (a:Addr) (w:World):(loadVar 88 a).run Tryz.prog w=(load a).run Tryz.prog w:=by
 unfold loadVar;simp [go_sem]
theorem CP (a:Addr) (w:World):(loadVar 38 a).run Tryz.prog w=(load a).run Tryz.prog w:=by
 unfold loadVar;simp [go_sem]
theorem wu {w:World} {a:Addr} {t:Tst} (h:∀ j,j < 5→w.cell? (a.add j)=(Aq t)[j]?):(loadVar 85 a).run Tryz.prog w= .ok (.agg (Aq t)) w:=
 nO (fun j v hv=>by
  have hj:j < 5:=by
   rcases Nat.lt_or_ge j 5 with hj | hj
   · exact hj
   · rw [List.getElem?_eq_none (by show 5≤j;exact hj)] at hv;cases hv
  rw [h j hj];simpa using hv) Tryz.underlying85 rfl (uX _ _ _ _ _)
theorem Az {w:World} {a:Addr} {x:Ru} (h:∀ j,j < 8→w.cell? (a.add j)=(ERu.C x)[j]?):(loadVar 90 a).run Tryz.prog w= .ok (CE x.r x.sl) w:=
 nO (cs:=pM x.r x.sl) (fun j v hv=>by
  have hj:j < 8:=by
   rcases Nat.lt_or_ge j 8 with hj | hj
   · exact hj
   · rw [List.getElem?_eq_none (by show 8≤j;exact hj)] at hv;cases hv
  rw [h j hj];exact hv) Tryz.underlying90 rfl (Ar _ _)
attribute [-go_sem] loadVar
attribute [local go_sem] xD xE CL CO CP
attribute [local irreducible] bE hasB fK uW o9
end Go.Proofs.YtollifnnpihfdaaGreatDoor
namespace Go.Proofs.YtollifnnpihfdaaGreatDoor
open Go.RowKit
attribute [-go_sem] loadVar
attribute [local go_sem] xD xE CL CO CP
attribute [local irreducible] bE wh
theorem qo {t:Int} (h:nU t=true):t=1005∨t=1300∨t=1306∨t=1307∨t=1302∨t=1309:=by
 unfold nU at h;simp only [Bool.or_eq_true,beq_iff_eq] at h;omega
theorem wE {t:Int} (h:nU t=false):(t == 1005)=false∧(t == 1300)=false∧(t == 1306)=false∧(t == 1307)=false∧(t == 1302)=false∧(t == 1309)=false:=by
 unfold nU at h;simp only [Bool.or_eq_false_iff] at h;obtain ⟨⟨⟨⟨⟨h1,h2⟩,h3⟩,h4⟩,h5⟩,h6⟩:=h;exact ⟨h1,h2,h3,h4,h5,h6⟩
end Go.Proofs.YtollifnnpihfdaaGreatDoor
namespace Go.Proofs.YtollifnnpihfdaaGreatDoor
open Go.RowKit
theorem LY (a:Addr) (w:World):(loadVar 203 a).run Tryz.prog w=(load a).run Tryz.prog w:=by
 unfold loadVar;simp [go_sem]
attribute [-go_sem] loadVar
attribute [local go_sem] xD xE CL CO CP LY
attribute [local irreducible] bE hasB fK uW o9
end Go.Proofs.YtollifnnpihfdaaGreatDoor
namespace Go.Proofs.YtollifnnpihfdaaGreatDoor
open Go.RowKit
theorem ax.lit {α:Type} (E:El α) (w:World) (base:Nat) (cs:Array Value) (x:α) (h:cs.toList=E.C x) (hb:base≤w.heap.size):ax E (w.alloc (.cells cs E.e)) base (.slice (some ⟨w.heap.size,0,none⟩) 1 1) [x]:=by
 have h1:=World.ownsRow_lit (base:=base) (e:=E.e) (size:=E.sz) w cs 1 hb (by unfold maxLen;omega) (by rw [← Array.length_toList,h,E.len];omega);have e: [x].flatMap E.C=cs.toList:=by rw [h];simp
 unfold ax;rw [e];exact h1
attribute [-go_sem] loadVar
attribute [local go_sem] xD xE CL CO CP LY
end Go.Proofs.YtollifnnpihfdaaGreatDoor
namespace Go.Proofs.YtollifnnpihfdaaGreatDoor
open Go.RowKit
def t1 (ks:Option Int):List Tst:=ks.toList.map fun k=>⟨22,1,k,⟨#[]⟩,0⟩
def r1 (ks:Option Int):Rul:=⟨5,1,0,t1 ks,0,⟨#[]⟩,0,⟨#[]⟩⟩
def m1 (ks:Option Int) (t:Int):Bool:=ks.all fun k=>t == k
abbrev L5 (l:Int):Prop:=l=1∨l=2∨l=3∨l=4∨l=5
theorem d5 {l:Nat} (h:l < 5):L5 ((l:Int)+1):=by unfold L5;omega
theorem AQ (ks:Option Int) {k:Nat} (hk:k < (t1 ks).length):∃ z,ks=some z∧(t1 ks)[k]'hk=⟨22,1,z,⟨#[]⟩,0⟩∧k+1=(t1 ks).length:=by
 cases ks with
 | none=>exact absurd hk (by simp [t1])
 | some z=>
  have:k=0:=by simp [t1] at hk;exact hk
  subst this;exact ⟨z,rfl,rfl,rfl⟩
attribute [local irreducible] bE
section
variable (k:Int) (w:World) (c:Ctx) (r:bN) (it:Value)
theorem xm:Calls Tryz.prog 183 #[.int .i64 22] w fun e w' =>e= .returned (.bool false)∧w=w' :=by
 go_in;go_wp2_with fail;go_ret;exact ⟨rfl,rfl⟩
theorem Dx:Calls Tryz.prog 275 #[.int .i64 22] w fun e w' =>e= .returned (.bool false)∧w=w' :=by
 go_in;go_wp2_with fail;go_ret;exact ⟨rfl,rfl⟩
theorem Hq:Calls Tryz.prog 275 #[.int .i64 0] w fun e w' =>e= .returned (.bool false)∧w=w' :=by
 go_in;go_wp2_with fail;go_ret;exact ⟨rfl,rfl⟩
theorem zA (l:Int) (h:L5 l):Calls Tryz.prog 241 #[.int .i64 l, .int .i64 22] w fun e w' =>e= .returned (.bool (l == 5))∧w=w' :=by
 rcases h with rfl | rfl | rfl | rfl | rfl;all_goals
  go_in;go_wp2_with fail;go_ret;exact ⟨rfl,rfl⟩
theorem KO (a b:Int):Calls Tryz.prog 283 #[.int .i64 1, .int .i64 a, .int .i64 b] w fun e w' =>e= .returned (.bool (a == b))∧w=w' :=by
 go_in;go_wp2_with fail;go_ret;exact ⟨rfl,rfl⟩
theorem zB (l:Int) (h:L5 l):Calls Tryz.prog 179 #[pY 22 1 k ⟨#[]⟩ 0, .int .i64 l] w fun e w' =>∃ x,(x == 0)=(l == 5)∧e= .returned (.int .i64 x)∧Below w.heap.size w w' :=by
 have HB:=Hd ((Below.refl w.heap.size w).alloc (Nat.le_refl _) (.cells (aV 22 1 k ⟨#[]⟩ 0) 85));have hA:=zA (w.alloc (.cells (aV 22 1 k ⟨#[]⟩ 0) 85)) l h;have hX:=xm (w.alloc (.cells (aV 22 1 k ⟨#[]⟩ 0) 85));obtain ⟨q0,q1,q2,q3,q4⟩:=dD (Blk.new w (aV 22 1 k ⟨#[]⟩ 0) 85);go_in;go_wp2_with fail;refine hA.mono ?_;rintro e w1 ⟨rfl,rfl⟩;rcases h with rfl | rfl | rfl | rfl | rfl;iterate 4
  go_wp2_with fail;go_ret;exact ⟨120,rfl,rfl,HB.o⟩
 iterate 2
  go_wp2_with fail;refine hX.mono ?_;rintro e w1 ⟨rfl,rfl⟩
 go_wp2_with fail;go_ret;exact ⟨0,rfl,rfl,HB.o⟩
variable (hty:(c.ty != 0)=true)
include hty
theorem Hr:Calls Tryz.prog 282 #[.int .i64 22,qa c r it,rR Itm.none irZ] w fun e w' =>e= .returned (.tuple #[.int .i64 c.ty, .bool true])∧Below w.heap.size w w' :=by
 have HC:=Ce w c r it (.cells (aO Itm.none irZ) 73);have HB:=Hd (((Below.refl w.heap.size w).alloc (Nat.le_refl _) (.cells (bE c r it) 54)).alloc (by simp) (.cells (aO Itm.none irZ) 73));have q:=HC.ty;clear HC;go_in;go_wp2_with fail;go_quiet (fail);go_wp2_with fail;go_ret2;exact ⟨rfl,below_drewN HB.o _⟩
theorem zC:Calls Tryz.prog 276 #[pY 22 1 k ⟨#[]⟩ 0,qa c r it,rR Itm.none irZ] w (wo (c.ty == k) w):=by
 obtain ⟨hT,hC,hI,hB⟩:=Lu w 22 1 k ⟨#[]⟩ 0 c r it Itm.none irZ;have HT:=Hd hT;have HC:=Hd hC;have HI:=Hd hI;have HB:=Hd hB;have HN:=Hd (fun W=>Hr W c r it hty);obtain ⟨q0,q1,q2,q3,q4⟩:=dD hT;clear hT hC hI hB hty;go_in;go_wp2_with fail;refine (xm _).mono ?_;rintro e w1 ⟨rfl,rfl⟩;go_wp2_with (first | ((with_reducible refine ay ?_ 54 (.tmp 4) ?_ HC.o ?_ _ Tryz.underlying54 ?_ ?_ ?_);(iterate 4 rfl);exact jK _ _ _) | ((with_reducible refine ay ?_ 73 (.tmp 5) ?_ HI.o ?_ _ Tryz.underlying73 ?_ ?_ ?_);(iterate 4 rfl);exact iH _ _));refine (HN.o _).mono ?_;rintro e w1 ⟨rfl,hb⟩;clear q0 q1 q2 q3 q4;obtain ⟨q0,q1,q2,q3,q4⟩:=dD (HT.o.below hb);have HB1:=Hd (HB.o.trans (hb.mono HB.o.size));clear hb;go_wp2_with fail;refine (KO _ _ _).mono ?_;rintro e w2 ⟨rfl,rfl⟩;go_wp2_with fail;go_ret;exact ⟨rfl,HB1.o⟩
theorem Dy:Calls Tryz.prog 258 #[pY 22 1 k ⟨#[]⟩ 0,qa c r it] w (wo (c.ty == k) w):=by
 obtain ⟨hT,hC,hB,hS⟩:=Fx w 22 1 k ⟨#[]⟩ 0 c r it;have HT:=Hd hT;have HC:=Hd hC;have HB:=Hd hB;have HV:=Hd (fun W=>zC k W c r it hty);clear hT hC hB hS hty;go_in;go_wp2_with fail;generalize (w.alloc (.cells (aV 22 1 k ⟨#[]⟩ 0) 85)).alloc (.cells (bE c r it) 54)=W at *;go_loopw [5,6] (fun b i wr=>∃ l:Nat,l≤5∧i= .int .i64 ((l:Int)+1)∧b= .bool (l == 5)∧Below W.heap.size W wr) (fun _ i _=>7 - (intOf i).toNat);case atStart=>exact ⟨0,by omega,rfl,rfl,Below.refl _ _⟩
 case round=>
  obtain ⟨l,hl,rfl,rfl,hb⟩:=hrel;obtain ⟨q0,q1,q2,q3,q4⟩:=dD (HT.o.below hb);have HBR:=Hd hb;clear hb;by_cases hlt:l < 5
  · have e5:(l == 5)=false:=(by simp;omega);have h5:=Hd (d5 hlt);rw [e5];clear e5;go_wp2_with fail;refine (zB k _ _ h5.o).mono ?_;rintro e w1 ⟨x,hx,rfl,hb1⟩;have HX:=Hd hx;have HB1:=Hd (aa HBR.o hb1);clear hb1 q0 q1 q2 q3 q4 hx;go_wp2_with fail;go_roundw;case rel=>exact ⟨l+1,by omega,by go_num,by rw [HX.o];congr 1;rw [Bool.eq_iff_iff];simp;omega,HB1.o⟩
    case measure=>simp [intOf];omega
  · have hl5:l=5:=(by omega);subst hl5;have HC1:=Hd (HC.o.below HBR.o);have HB1:=Hd (HB.o.trans (HBR.o.mono HB.o.size));clear hl hlt;go_wp2_with fail;refine (Dx _).mono ?_;rintro e w1 ⟨rfl,rfl⟩;go_wp2_with fail;refine (Hq _).mono ?_;rintro e w1 ⟨rfl,rfl⟩;go_wp2_with (((with_reducible refine ay ?_ 54 (.tmp 3) ?_ HC1.o ?_ _ Tryz.underlying54 ?_ ?_ ?_);(iterate 4 rfl);exact jK _ _ _));refine (HV.o _).mono ?_;rintro e w2 ⟨rfl,hb2⟩;have HB2:=Hd (HB1.o.trans (hb2.mono HB1.o.size));go_wp2_with fail;go_ret;exact ⟨rfl,HB2.o⟩
end
end Go.Proofs.YtollifnnpihfdaaGreatDoor
namespace Go.Proofs.YtollifnnpihfdaaGreatDoor
open Go.ChangeShapes Go.WideShapes Go.RowKit Go.Joins Go.Deep
theorem cells_of_row (w:World) (i:Nat) (hi:i < (nD.map (kL.cells .u8)).length) (m:Nat) (cs' :List Value) (d:DataW Unit) (q:List MemPlace) (ds:List (DataW Unit)) (hds:DataW.agg ds=Rows.laid_kaudit_call_calls) (hd:ds[i]? =some d) (ht:DataW.trod (fun _=>()) Tryz.prog w 0 (fun _=>true) false m 237 cs' =some (d,q)):cs' =(nD.map (kL.cells .u8))[i]:=by
 have H:∀ k:Fin 22,ds[k.val]? =some d→cs' =(nD.map (kL.cells .u8))[k.val]'(by have:(nD.map (kL.cells .u8)).length=22:=rfl;omega):=by
  unfold Rows.laid_kaudit_call_calls at hds;injection hds with hds;subst hds;intro k hd
  match k with
  | ⟨0,_⟩=>exact aH Tryz.underlying237 (by kernel_rfl) (by kernel_rfl) Tryz.underlying9 Tryz.underlying5 Tryz.underlying5 Tryz.underlying5 Tryz.underlying5 (by cases hd;exact ht)
  | ⟨1,_⟩=>exact aH Tryz.underlying237 (by kernel_rfl) (by kernel_rfl) Tryz.underlying9 Tryz.underlying5 Tryz.underlying5 Tryz.underlying5 Tryz.underlying5 (by cases hd;exact ht)
  | ⟨2,_⟩=>exact aH Tryz.underlying237 (by kernel_rfl) (by kernel_rfl) Tryz.underlying9 Tryz.underlying5 Tryz.underlying5 Tryz.underlying5 Tryz.underlying5 (by cases hd;exact ht)
  | ⟨3,_⟩=>exact aH Tryz.underlying237 (by kernel_rfl) (by kernel_rfl) Tryz.underlying9 Tryz.underlying5 Tryz.underlying5 Tryz.underlying5 Tryz.underlying5 (by cases hd;exact ht)
  | ⟨4,_⟩=>exact aH Tryz.underlying237 (by kernel_rfl) (by kernel_rfl) Tryz.underlying9 Tryz.underlying5 Tryz.underlying5 Tryz.underlying5 Tryz.underlying5 (by cases hd;exact ht)
  | ⟨5,_⟩=>exact aH Tryz.underlying237 (by kernel_rfl) (by kernel_rfl) Tryz.underlying9 Tryz.underlying5 Tryz.underlying5 Tryz.underlying5 Tryz.underlying5 (by cases hd;exact ht)
  | ⟨6,_⟩=>exact aH Tryz.underlying237 (by kernel_rfl) (by kernel_rfl) Tryz.underlying9 Tryz.underlying5 Tryz.underlying5 Tryz.underlying5 Tryz.underlying5 (by cases hd;exact ht)
  | ⟨7,_⟩=>exact aH Tryz.underlying237 (by kernel_rfl) (by kernel_rfl) Tryz.underlying9 Tryz.underlying5 Tryz.underlying5 Tryz.underlying5 Tryz.underlying5 (by cases hd;exact ht)
  | ⟨8,_⟩=>exact aH Tryz.underlying237 (by kernel_rfl) (by kernel_rfl) Tryz.underlying9 Tryz.underlying5 Tryz.underlying5 Tryz.underlying5 Tryz.underlying5 (by cases hd;exact ht)
  | ⟨9,_⟩=>exact aH Tryz.underlying237 (by kernel_rfl) (by kernel_rfl) Tryz.underlying9 Tryz.underlying5 Tryz.underlying5 Tryz.underlying5 Tryz.underlying5 (by cases hd;exact ht)
  | ⟨10,_⟩=>exact aH Tryz.underlying237 (by kernel_rfl) (by kernel_rfl) Tryz.underlying9 Tryz.underlying5 Tryz.underlying5 Tryz.underlying5 Tryz.underlying5 (by cases hd;exact ht)
  | ⟨11,_⟩=>exact aH Tryz.underlying237 (by kernel_rfl) (by kernel_rfl) Tryz.underlying9 Tryz.underlying5 Tryz.underlying5 Tryz.underlying5 Tryz.underlying5 (by cases hd;exact ht)
  | ⟨12,_⟩=>exact aH Tryz.underlying237 (by kernel_rfl) (by kernel_rfl) Tryz.underlying9 Tryz.underlying5 Tryz.underlying5 Tryz.underlying5 Tryz.underlying5 (by cases hd;exact ht)
  | ⟨13,_⟩=>exact aH Tryz.underlying237 (by kernel_rfl) (by kernel_rfl) Tryz.underlying9 Tryz.underlying5 Tryz.underlying5 Tryz.underlying5 Tryz.underlying5 (by cases hd;exact ht)
  | ⟨14,_⟩=>exact aH Tryz.underlying237 (by kernel_rfl) (by kernel_rfl) Tryz.underlying9 Tryz.underlying5 Tryz.underlying5 Tryz.underlying5 Tryz.underlying5 (by cases hd;exact ht)
  | ⟨15,_⟩=>exact aH Tryz.underlying237 (by kernel_rfl) (by kernel_rfl) Tryz.underlying9 Tryz.underlying5 Tryz.underlying5 Tryz.underlying5 Tryz.underlying5 (by cases hd;exact ht)
  | ⟨16,_⟩=>exact aH Tryz.underlying237 (by kernel_rfl) (by kernel_rfl) Tryz.underlying9 Tryz.underlying5 Tryz.underlying5 Tryz.underlying5 Tryz.underlying5 (by cases hd;exact ht)
  | ⟨17,_⟩=>exact aH Tryz.underlying237 (by kernel_rfl) (by kernel_rfl) Tryz.underlying9 Tryz.underlying5 Tryz.underlying5 Tryz.underlying5 Tryz.underlying5 (by cases hd;exact ht)
  | ⟨18,_⟩=>exact aH Tryz.underlying237 (by kernel_rfl) (by kernel_rfl) Tryz.underlying9 Tryz.underlying5 Tryz.underlying5 Tryz.underlying5 Tryz.underlying5 (by cases hd;exact ht)
  | ⟨19,_⟩=>exact aH Tryz.underlying237 (by kernel_rfl) (by kernel_rfl) Tryz.underlying9 Tryz.underlying5 Tryz.underlying5 Tryz.underlying5 Tryz.underlying5 (by cases hd;exact ht)
  | ⟨20,_⟩=>exact aH Tryz.underlying237 (by kernel_rfl) (by kernel_rfl) Tryz.underlying9 Tryz.underlying5 Tryz.underlying5 Tryz.underlying5 Tryz.underlying5 (by cases hd;exact ht)
  | ⟨21,_⟩=>exact aH Tryz.underlying237 (by kernel_rfl) (by kernel_rfl) Tryz.underlying9 Tryz.underlying5 Tryz.underlying5 Tryz.underlying5 Tryz.underlying5 (by cases hd;exact ht)
  | ⟨k+22,h⟩=>exact absurd h (by omega)
 exact H ⟨i,hi⟩ hd
theorem calls_of_laid {W : World} {laid : List (String × DataW Unit)} (i : Nat) (hpl : (laid.all fun x => x.2.handleName?.isNone) = true) (h : laidMetH Tryz.prog laid W) (hi : laid[i]? = some ("kaudit/call.calls", Rows.laid_kaudit_call_calls)) : Calls10 W :=
 o8 (t:=238) (e:=237) (c:=5) (n:=22) (L:=nD.map (kL.cells .u8)) i hpl h hi rfl (by kernel_rfl) Tryz.underlying238 (by kernel_rfl) (by kernel_rfl) rfl rfl (fun w i hi m cs' d q hd ht=>cells_of_row w i hi m cs' d q _ rfl hd ht)
end Go.Proofs.YtollifnnpihfdaaGreatDoor
