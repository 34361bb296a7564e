import Derived.RangeFuncNested
import Derived.RangeFuncBound
import Derived.Shelf.RegionOpen
import Derived.OwnWalkIn
import Derived.LoopNIn
import Derived.LoopIn
import Derived.StillTailTactics
import Derived.Lib.TrailingZeros
import Derived.Test.YtollifnnpihfdaaGreatDoorW26
set_option maxRecDepth 100000
set_option maxHeartbeats 64000000
set_option linter.all false
namespace Go.Proofs.YtollifnnpihfdaaGreatDoor
open Go.ChangeShapes Go.WideShapes Go.RowKit
theorem lU (a:Addr) (n:Nat):(a.add n).block=a.block:=by unfold Addr.add;split <;> rfl
abbrev Mr (t:Tst):Array Value:=I7 t.fd t.op t.nu t.tx t.ot
def iE (w:World) (B:Nat) (A:Option Addr) (ts:List Tst):Prop:=∀ k (hk:k < ts.length),∃ ad:Addr,A=some ad∧ad.block < B∧∀ j,j < 5→w.cell? ((ad.add (k * 5)).add j)=(Mr (ts[k]'hk))[j]?
theorem iE.keep {w w' :World} {B B' :Nat} {A:Option Addr} {ts:List Tst} (h:iE w B A ts) (hb:Below B' w w') (hB:B≤B'):iE w' B A ts:=fun k hk=>by
 obtain ⟨ad,e,hl,hc⟩:=h k hk;exact ⟨ad,e,hl,fun j hj=>(hb.cell (by rw [lU,lU];omega)).trans (hc j hj)⟩
theorem iE.more {w:World} {B B' :Nat} {A:Option Addr} {ts:List Tst} (h:iE w B A ts) (hB:B≤B'):iE w B' A ts:=fun k hk=>by
 obtain ⟨ad,e,hl,hc⟩:=h k hk;exact ⟨ad,e,by omega,hc⟩
abbrev oW (r:Rul) (v:Value):Array Value:=#[.int .i64 r.li, .int .i64 r.ac, .int .u64 (r.ca:Int),v, .int .i64 r.wa, .string r.pa, .int .i64 r.pe, .string r.ke]
abbrev Fh (r:Rul) (v:Value):Value:= .agg (oW r v)
theorem Fj (r:Rul) (v:Value):(Tryz.prog.info? 90).map (·.size)=some (oW r v).size:=by show _=some 8;kernel_rfl
section
variable {w:World} {g:Nat} {r:Rul} {v:Value}
end
structure Mid (lo hi:Nat) (A B:World):Prop where
 low:Below lo A B
 high:∀ b,hi≤b→b < A.heap.size→B.heap[b]? =A.heap[b]?
theorem iW {lo l:Nat} (A:World) (o:Obj) (h:lo≤l) (hl:l < A.heap.size):Below lo A (A.putObj l o):=
 (Below.refl lo A).grown (grownBy_putObj' A l o) (by omega) (fun k e=>by cases e;exact h)
variable {F:Fence} {n:Nat} {P:Program}
end Go.Proofs.YtollifnnpihfdaaGreatDoor
namespace Go.Proofs.YtollifnnpihfdaaGreatDoor
open Go.RowKit
abbrev noT:Value:= .slice none 0 0
section
variable {w wr w' :World} {g n c k k' :Nat} {A:Option Addr} {ws:List ByteArray} {b b' :Bool} {r r' :Rul}
end
structure MkR (r:Rul):Prop where
 ca:r.ca < 18446744073709551616
 pa:r.pa.size≤10
 ke:r.ke.size≤10
 ts:∀ t∈r.ts,(-13≤t.nu∧t.nu≤4294967295)∧t.tx.size≤5
section
variable {w wr w' :World} {base g gc:Nat} {b b' :Int} {r r' :Rul} {tv:Value}
end
structure Ru where
 r:Rul
 A:Option Addr
 c:Nat
theorem Tryz.Fp:(Tryz.prog.info? 90).map (fun i=>(i.zero,i.size,i.bytes))=some (some (.agg (oW kS noT)),8,96):=by kernel_rfl
def ERu:El Ru where
 C x:= [.int .i64 x.r.li, .int .i64 x.r.ac, .int .u64 (x.r.ca:Int), .slice x.A x.r.ts.length x.c, .int .i64 x.r.wa, .string x.r.pa, .int .i64 x.r.pe, .string x.r.ke]
 e:=90
 sl:=38
 sz:=8
 bs:=96
 len _:=rfl
 one x u hu:=by simp at hu;rcases hu with rfl | rfl | rfl | rfl | rfl | rfl | rfl | rfl <;> rfl
 pos:=by omega
 small:=by omega
 hu:=Tryz.underlying38
 info:=by
  obtain ⟨i0,h1,h2,h3,h4⟩:=info_parts Tryz.Fp;exact ⟨i0,_,h1,h2,h3,h4,rfl⟩
def GdR (r:Rul):Prop:=MkR r∧r.ts.length≤3
structure wR (w:World) (B:Nat) (A:Option Addr) (xs:List Ru):Prop where
 at_:AtE ERu w B A xs
 few:xs.length≤1000
 ts:∀ x∈xs,iE w B x.A x.r.ts∧GdR x.r
section
variable {w w' :World} {B B' base:Nat} {A:Option Addr} {v v' :Value} {xs:List Ru}
theorem wR.keep (h:wR w B A xs) (hb:Below B' w w') (hB:B≤B'):wR w' B A xs:=⟨h.at_.keep hb hB,h.few,fun x hx=>⟨(h.ts x hx).1.keep hb hB,(h.ts x hx).2⟩⟩
theorem wR.more (h:wR w B A xs) (hB:B≤B'):wR w B' A xs:=⟨h.at_.more hB,h.few,fun x hx=>⟨(h.ts x hx).1.more hB,(h.ts x hx).2⟩⟩
end
def ek (w:World) (base:Nat) (v:Value) (L:List Rc):Prop:=∃ xs:List Rm,xs.map (·.r)=L∧ax ER w base v xs∧∀ x∈xs,ax EP w base x.sl x.r.ps
section
variable {w w' :World} {base:Nat} {v v' :Value} {L:List Rc}
theorem ek.nil (w:World) (base:Nat):ek w base (.slice none 0 0) []:=⟨[],rfl,ax.nil _ _,fun _ h=>by cases h⟩
theorem ek.below (h:ek w base v L) (hb:Below w.heap.size w w'):ek w' base v L:=by
 obtain ⟨xs,e,ho,hp⟩:=h;exact ⟨xs,e,ho.below hb,fun x hx=>(hp x hx).below hb⟩
theorem ek.cell (h:ek w base v L) {g i:Nat} {t:TypeId} {cs:Array Value} (hg:Blk w g t cs) (h1:(77:Nat)≠t) (h2:(79:Nat)≠t) (u:Value):ek (w.setCell ⟨g,i,none⟩ u) base v L:=by
 obtain ⟨xs,e,ho,hp⟩:=h;exact ⟨xs,e,ho.bU (ay ho hg h1) u,fun x hx=>(hp x hx).bU (ay (hp x hx) hg h2) u⟩
theorem ek.app (h:ek w base v L) (x:Rm) {xs:List Rm} (e:xs.map (·.r)=L) (ho:ax ER w base v xs) (hp:∀ x∈xs,ax EP w base x.sl x.r.ps) (hx:ax EP w base x.sl x.r.ps) (hn:ax ER w' base v' (xs ++ [x])) (hg:w.grownBy w' v.ownBlock):ek w' base v' (L ++ [x.r]):=by
 refine ⟨xs ++ [x],by rw [List.map_append,e];rfl,hn,fun y hy=>?_⟩;have k:∀ {y:Rm},ax EP w base y.sl y.r.ps→ax EP w' base y.sl y.r.ps:=fun {y} hy=>hy.far hg (fun k e r=>aB hy ho (show (79:Nat)≠77 by decide) k e r);rcases List.mem_append.1 hy with hy | hy
 · exact k (hp y hy)
 · rw [List.mem_singleton.1 hy];exact k hx
end
structure Mk where
 A:Option Addr
 n:Nat
 c:Nat
 v2:Value
 cx:Ctx
 r:dX
 Ai:Option Addr
 ni:Nat
 ci:Nat
 ti:Int
 rs:List Ru
 is:List (Itm×bF)
def Mk.C (m:Mk) (v:Value):Array Value:=#[.slice m.A m.n m.c,m.v2, .int .i64 m.cx.ph, .int .i64 (m.cx.p 0), .int .i64 (m.cx.p 1), .int .i64 (m.cx.p 2), .int .i64 (m.cx.p 3), .int .i64 (m.cx.p 4), .int .i64 (m.cx.p 5), .int .i64 (m.cx.p 6), .int .i64 (m.cx.p 7), .int .i64 m.r.d, .int .i64 m.r.i, .string m.cx.comm, .string m.cx.exe,m.r.o.v, .bool m.r.u, .int .i64 m.r.n, .int .i64 (m.cx.a 0), .int .i64 (m.cx.a 1), .int .i64 (m.cx.a 2), .int .i64 (m.cx.a 3),m.r.ps.v,m.r.gs.v, .int .i64 m.cx.ex, .slice m.Ai m.ni m.ci, .int .i64 m.cx.ty, .int .i64 m.ti,v]
abbrev Mk.X (m:Mk):Array Value:=gu m.cx m.r (.slice m.Ai m.ni m.ci)
abbrev Mk.P (m:Mk):Array Value:=#[.slice m.A m.n m.c,m.v2]
def Mk.ex (m:Mk) (t:Int):Bool:=pI (m.rs.map (·.r)) m.cx m.r.n (m.is.map (·.1)) t
theorem Mk.Fu (m:Mk) (t:Int):m.ex t=pI (m.rs.map (·.r)) m.cx m.r.n (m.is.map (·.1)) t:=rfl
theorem Mk.list (m:Mk) (v:Value):(m.C v).toList= [.slice m.A m.n m.c,m.v2] ++ (m.X.toList ++ [.int .i64 m.ti,v]):=rfl
theorem Mk.sub (m:Mk) (v:Value) (j:Nat) (u:Value) (h:m.X.toList[j]? =some u):(m.C v)[2+j]? =some u:=by
 rw [← Array.getElem?_toList,m.list,List.getElem?_append_right (by simp)];have hj:j < m.X.toList.length:=(List.getElem?_eq_some_iff.1 h).1;rw [List.getElem?_append_left (by simpa using hj)];simpa using h
theorem Mk.c27 (m:Mk) (v:Value):(m.C v)[27]? =some (.int .i64 m.ti):=rfl
theorem Mk.c28 (m:Mk) (v:Value):(m.C v)[28]? =some v:=rfl
theorem Mk.set (m:Mk) (v u:Value):(m.C v).setIfInBounds 28 u=m.C u:=rfl
def Mv (m:Mk):Prop:=∀ (t:Int) (w:World),wR w w.heap.size m.A m.rs→bX w w.heap.size m.Ai m.is→
 Calls Tryz.prog 94 #[.agg m.P, .agg m.X, .int .i64 t] w fun e w' =>e= .returned (.bool (m.ex t))∧Below w.heap.size w w'
structure Mk.Ok (m:Mk):Prop where
 hn:m.n=m.rs.length
 hi:m.ni=m.is.length
 few:m.ni≤1000
 xc:Mv m
structure EvG (m:Mk) (w:World) (base g:Nat) (L:List Rc):Prop where
 blk:∃ v,Blk w g 124 (m.C v)∧ek w base v L
 hg:base≤g
 rules:wR w base m.A m.rs
 items:bX w base m.Ai m.is
 ok:m.Ok
 few:L.length≤2000
def jL (m:Mk) (L:List Rc) (t:Int) (ps:List Pr):List Rc:=if m.ex t=true then L else L ++ [⟨t,m.ti,0,ps⟩]
section
variable {m:Mk} {w w' :World} {base g:Nat} {L:List Rc}
theorem EvG.below (h:EvG m w base g L) (hb:Below w.heap.size w w'):EvG m w' base g L:=by
 obtain ⟨v,h1,h2⟩:=h.blk;have hl:base≤w.heap.size:=Nat.le_trans h.hg (Nat.le_of_lt h1.lt);exact ⟨⟨v,h1.below hb,h2.below hb⟩,h.hg,h.rules.keep hb hl,h.items.keep hb hl,h.ok,h.few⟩
theorem EvG.lt (h:EvG m w base g L):g < w.heap.size:=by
 obtain ⟨v,h1,_⟩:=h.blk;exact h1.lt
end
theorem zJ {m:Mk} {w:World} {g:Nat} {v:Value} (h:Blk w g 124 (m.C v)):(loadVar 54 ⟨g,2,none⟩).run Tryz.prog w= .ok (.agg m.X) w:=
 qm (fun j u hu=>by rw [Ha,h.cell];exact m.sub v j u hu) Tryz.underlying54 rfl (qw _ _ _)
theorem Fv {m:Mk} {w:World} {g:Nat} {v:Value} (h:Blk w g 124 (m.C v)):(loadVar 41 ⟨g,0,none⟩).run Tryz.prog w= .ok (.agg m.P) w:=
 qm (fun j u hu=>by
  rw [Ha,h.cell]
  match j with
  | 0=>simp at hu;subst hu;rfl
  | 1=>simp at hu;subst hu;rfl
  | j+2=>simp at hu) Tryz.underlying41 rfl (by show _=some 2;kernel_rfl)
theorem gZ.num {w:World} {g:Nat} {c:Ctx} {r:dX} {it:Value} (h:gZ w g c r it):w.cell? ⟨g,15,none⟩=some (.int .i64 r.n):=h.cell 15
theorem yx (c:Ctx) (r:dX) (it:Value) (t:Int):(gu c r it).setIfInBounds 24 (.int .i64 t)=gu { c with ty:=t } r it:=rfl
theorem FB (a:Addr) (w:World):(loadVar 86 a).run Tryz.prog w=(load a).run Tryz.prog w:=by
 unfold loadVar;simp [go_sem]
theorem FC (a:Addr) (w:World):(loadVar 88 a).run Tryz.prog w=(load a).run Tryz.prog w:=by
 unfold loadVar;simp [go_sem]
theorem FD (a:Addr) (w:World):(loadVar 38 a).run Tryz.prog w=(load a).run Tryz.prog w:=by
 unfold loadVar;simp [go_sem]
attribute [-go_sem] loadVar
attribute [local go_sem] BI BK FB FC FD
attribute [local irreducible] gu hasB gK xH vD
end Go.Proofs.YtollifnnpihfdaaGreatDoor
namespace Go.Proofs.YtollifnnpihfdaaGreatDoor
open Go.RowKit
attribute [-go_sem] loadVar
attribute [local go_sem] BI BK FB FC FD
attribute [local irreducible] gu zG
theorem BQ {t:Int} (h:zH t=true):t=1005∨t=1300∨t=1306∨t=1307∨t=1302∨t=1309:=by
 unfold zH at h;simp only [Bool.or_eq_true,beq_iff_eq] at h;omega
theorem FE {t:Int} (h:zH t=false):(t == 1005)=false∧(t == 1300)=false∧(t == 1306)=false∧(t == 1307)=false∧(t == 1302)=false∧(t == 1309)=false:=by
 unfold zH at h;simp only [Bool.or_eq_false_iff] at h;obtain ⟨⟨⟨⟨⟨h1,h2⟩,h3⟩,h4⟩,h5⟩,h6⟩:=h;exact ⟨h1,h2,h3,h4,h5,h6⟩
end Go.Proofs.YtollifnnpihfdaaGreatDoor
namespace Go.Proofs.YtollifnnpihfdaaGreatDoor
open Go.RowKit
theorem KP (a:Addr) (w:World):(loadVar 203 a).run Tryz.prog w=(load a).run Tryz.prog w:=by
 unfold loadVar;simp [go_sem]
attribute [-go_sem] loadVar
attribute [local go_sem] BI BK FB FC FD KP
attribute [local irreducible] gu hasB gK xH vD
end Go.Proofs.YtollifnnpihfdaaGreatDoor
namespace Go.Proofs.YtollifnnpihfdaaGreatDoor
open Go.RowKit
theorem ax.lit {α:Type} (E:El α) (w:World) (base:Nat) (cs:Array Value) (x:α) (h:cs.toList=E.C x) (hb:base≤w.heap.size):ax E (w.alloc (.cells cs E.e)) base (.slice (some ⟨w.heap.size,0,none⟩) 1 1) [x]:=by
 have h1:=World.ownsRow_lit (base:=base) (e:=E.e) (size:=E.sz) w cs 1 hb (by unfold maxLen;omega) (by rw [← Array.length_toList,h,E.len];omega);have e: [x].flatMap E.C=cs.toList:=by rw [h];simp
 unfold ax;rw [e];exact h1
attribute [-go_sem] loadVar
attribute [local go_sem] BI BK FB FC FD KP
end Go.Proofs.YtollifnnpihfdaaGreatDoor
namespace Go.Proofs.YtollifnnpihfdaaGreatDoor
open Go.RowKit
def KS {α:Type} (F:Fence) (n:Nat) (P:Program) (g:Nat) (lb:Array Value) (enc:α→Value) (G:α→Prop) (lo hi:Nat) (R:World→World→Prop) (S Sp:List α→Prop) (N:Nat) (w:World):Prop:=
 ∀ (l:Nat) (J Jx:List α→World→Prop) (W:World),Below w.heap.size w W→(∀ pre A B,J pre A→Mid lo hi A B→J pre B)→(∀ pre A B,Jx pre A→Mid lo hi A B→Jx pre B)→
  (∀ pre x A,G x→J pre A→pre.length < N→YieldAt F (n - 1) P l #[enc x] A fun e B=>
   (e= .returned (.bool true)∧J (pre ++ [x]) B∧R A B)∨(e= .returned (.bool false)∧Jx (pre ++ [x]) B))→
  J [] W→
  CallsIn F n P g (#[.func (.yield l) #[] #[]] ++ lb) W fun e B=>(∃ v,e= .returned v)∧((∃ xs,S xs∧J xs B)∨(∃ pre,Sp pre∧Jx pre B))
variable {F:Fence} {n:Nat} {P:Program}
end Go.Proofs.YtollifnnpihfdaaGreatDoor
namespace Go.Proofs.YtollifnnpihfdaaGreatDoor
open Go.RowKit
section
variable {F:Fence} {n:Nat} {P:Program} {Q:Exit→Act→World→Prop} {a:Act} {w:World} {b:Frame} {k:List Item} {cs:List Frame}
theorem dG {c:Code} :step P (lone (b.atR a (.code (.scope c) :: k)) cs w)= .next (lone (b.atR a (.code c :: .inScope c :: k)) cs w):=
 step_lone_go (by simp [stepG,stepG.exec,Frame.atR])
theorem kU {c:Code} :step P (lone (b.atR a (.inScope c :: k)) cs w)= .next (lone (b.atR a k) cs w):=
 step_lone_go (by simp [stepG,stepG.exec,Frame.atR])
theorem jF (id:Nat) (c:Code) (k:List Item):exitTo id (.inScope c :: k)=exitTo id k:=by simp [exitTo]
theorem iF {c:Code} (h:c.wpIn F n P (Exit.noGoto Q) a w):(Code.scope c).wpIn F n P Q a w:=by
 intro b k cs hro hb hr;have h0:(lone (b.atR a (.code (.scope c) :: k)) cs w).fenced P F:=fenced_calm hb hr rfl;obtain ⟨e,a₁,w₁,hq,harr⟩:=h b (.inScope c :: k) cs hro hb hr;cases e with
 | normal=>exact ⟨.normal,a₁,w₁,hq, .head h0 dG (StepsIn.trans harr (.one (fenced_calm hb hr rfl) kU))⟩
 | exit id=>exact ⟨.exit id,a₁,w₁,hq, .of_steps (.one h0 dG) ⟨fun k' hk=>harr.1 k' (by rw [jF];exact hk),fun hr hk=>harr.2 hr (by rw [jF];exact hk)⟩⟩
 | goto l=>exact hq.elim
 | ret=>exact ⟨_,a₁,w₁,hq, .of_steps (.one h0 dG) harr⟩
 | panic ch=>exact ⟨_,a₁,w₁,hq, .of_steps (.one h0 dG) harr⟩
 | outgrown=>exact ⟨_,a₁,w₁,hq, .of_steps (.one h0 dG) harr⟩
end
theorem nz {l n:Nat} {P:Program} {ops:Array Oper} {Q:Exit→Act→World→Prop} (hlo:¬ LetsOut Q) (hd:∀ (i:Nat) (o:Oper) c,ops[i]? =some o→o.op≠ .defer c):
  ∀ (L:List Nat) (a:Act) (w:World),wpOps P ops Q L a w→wpOpsIn (Fence.wide.inRound l) n P ops Q L a w:=by
 intro L;induction L with
 | nil=>exact fun a w h=>h
 | cons i rest ih=>
  intro a w h;simp only [wpOps] at h;simp only [wpOpsIn];cases ho:ops[i]? with
  | none=>rw [ho] at h;exact ih a w h
  | some o=>
   rw [ho] at h;by_cases hw:Region.wanted o (yielded ops a.tmps)=true
   · simp only [hw,if_true] at h ⊢;rcases h with h | ⟨_,h⟩
     · refine ⟨fun _ _=>trivial,?_⟩;rw [Oper.semAt_eq _ _ _ (fun c=>hd i o c ho)];unfold Oper.wp at h;revert h;generalize (execOp a.eval o).run P w=r;intro h;unfold Oper.upon at h;unfold Oper.uponIn;split at h
       · exact ih _ _ h
       · exact ih _ _ h
       · exact ih _ _ h
       · refine ⟨fun h=>by simp [Fence.wide] at h,?_⟩;refine CallsIn.inRound l (callsIn_wide.2 (h.mono ?_));intro e w' hr;cases e with
         | returned v=>exact ih _ _ hr
         | panicked ch=>exact hr
         | outgrown=>exact hr
       · refine ⟨fun h=>by simp [Fence.wide] at h,?_⟩;intro c cs _;obtain ⟨v,w',hr,hs⟩:=h c cs;exact ⟨v,w',ih _ _ hr,stepsIn_wide.2 hs⟩
       · exact h
       · exact h.elim
     · exact absurd h hlo
   · simp only [hw,if_false,Bool.false_eq_true] at h ⊢;exact ⟨fun _ _=>trivial,ih _ _ h⟩
def qN (o:Oper):Bool:=match o.op with | .defer _=>false | _=>true
theorem iZ {l n:Nat} {P:Program} {id:Nat} {ops:Array Oper} {Q:Exit→Act→World→Prop} {a:Act} {w:World} (S:World→Prop) (hlo:¬ LetsOut Q) (hd:ops.toList.all qN=true) (hm:P.follows .mixedOrders=true) (hS:S w.drew)
  (h:S w.drew→wpAnyH P .any ops Q S ops.size (Array.replicate ops.size false) a w.drew):(Code.region id ops true).wpIn (Fence.wide.inRound l) n P Q a w:=
 wpIn_region_draw fun t=>by
  simp only [Region.schedule,hm,Bool.true_or,if_true];refine nz hlo (fun i o c ho e=>?_) _ _ _ (wpAny_sound ops.size t _ a _ (wpAny_of_held _ _ _ _ (h hS)));have h1:=List.all_eq_true.1 hd o (by rw [Array.getElem?_eq_some_iff] at ho;obtain ⟨h1,rfl⟩:=ho;exact Array.mem_toList_iff.2 (Array.getElem_mem h1));unfold qN at h1;rw [e] at h1;cases h1
abbrev blC (li ra fa:Int):Array Value:=#[.int .i64 li, .int .i64 ra, .int .i64 fa, .int .i64 0, .int .i64 0, .slice none 0 0, .slice none 0 0, .int .i64 0, .int .i64 0, .int .i64 0, .int .i64 0, .int .i64 0, .int .i64 0, .int .i64 0, .int .i64 0, .bool false, .slice none 0 0]
abbrev cfL (p q:Pr) (li ra fa en:Int):List Pr:= [p,q,⟨⟨#[108,105,109,105,116]⟩,1,li,⟨#[]⟩⟩,⟨⟨#[114,97,116,101]⟩,1,ra,⟨#[]⟩⟩,⟨⟨#[102,97,105,108]⟩,1,fa,⟨#[]⟩⟩,⟨⟨#[101,110,97,98,108,101,100]⟩,1,en,⟨#[]⟩⟩]
abbrev cfP (p q:Pr) (li ra fa en:Int):Array Value:=#[.string p.nm, .int .i64 p.kd, .int .i64 p.nu, .string p.tx, .string q.nm, .int .i64 q.kd, .int .i64 q.nu, .string q.tx, .string ⟨#[108,105,109,105,116]⟩, .int .i64 1, .int .i64 li, .string ⟨#[]⟩, .string ⟨#[114,97,116,101]⟩, .int .i64 1, .int .i64 ra, .string ⟨#[]⟩, .string ⟨#[102,97,105,108]⟩, .int .i64 1, .int .i64 fa, .string ⟨#[]⟩, .string ⟨#[101,110,97,98,108,101,100]⟩, .int .i64 1, .int .i64 en, .string ⟨#[]⟩]
abbrev cfQ (p q:Pr) (li ra fa en t:Int):Rc:=⟨1305,t,0,cfL p q li ra fa en⟩
attribute [local irreducible] gK
attribute [-go_sem] loadVar
attribute [local go_sem] lv3
theorem yY (op:ByteArray) (r:Rul) (A:Option Addr) (n c:Nat) (s0 s:ByteArray) (k li ra fa en t:Int) (p q:Pr) (hp:∀ w:World,Calls Tryz.prog 47 #[.string ⟨#[111,112]⟩, .string op] w fun e w' =>e= .returned (prV p)∧Below w.heap.size w w') (hq:∀ w:World,Calls Tryz.prog 50 #[.string ⟨#[114,117,108,101]⟩, .string s] w fun e w' =>e= .returned (prV q)∧Below w.heap.size w w')
  (hk:(k=0∧s0=s)∨(k≠0∧s=⟨#[]⟩)) (w:World) (hf:∀ W:World,Below w.heap.size w W→Calls Tryz.prog 73 #[Fh r (.slice A n c)] W fun e w' =>e= .returned (.tuple #[.string s0, .int .i64 k])∧Below W.heap.size W w'):
  Calls Tryz.prog 29 #[.string op,Fh r (.slice A n c), .agg (blC li ra fa), .int .i64 en, .int .i64 t] w (KQ (cfQ p q li ra fa en t) w):=by
 have HFM:=Hd hf;have HK:((k != 0)=false∧s0=s)∨((k != 0)=true∧s=⟨#[]⟩):=by
  rcases hk with ⟨h1,h2⟩ | ⟨h1,h2⟩
  · exact .inl ⟨by simp [h1],h2⟩
  · exact .inr ⟨by simp [h1],h2⟩
 have X0:=Hd (show Blk (((w.alloc (.cells (oW r (.slice A n c)) 90)).alloc (.cells (blC li ra fa) 104)).alloc (.cells zrC 77)) w.heap.size 90 (oW r (.slice A n c)) from ((Blk.new w (oW r (.slice A n c)) 90).alloc _).alloc _);have X1:Blk (((w.alloc (.cells (oW r (.slice A n c)) 90)).alloc (.cells (blC li ra fa) 104)).alloc (.cells zrC 77)) (w.heap.size+1) 104 (blC li ra fa):=by
  have:=(Blk.new (w.alloc (.cells (oW r (.slice A n c)) 90)) (blC li ra fa) 104).alloc (.cells zrC 77);simpa using this
 have X2:Blk (((w.alloc (.cells (oW r (.slice A n c)) 90)).alloc (.cells (blC li ra fa) 104)).alloc (.cells zrC 77)) (w.heap.size+2) 77 zrC:=by
  have:=Blk.new ((w.alloc (.cells (oW r (.slice A n c)) 90)).alloc (.cells (blC li ra fa) 104)) zrC 77;simpa using this
 have hB0:Below w.heap.size w (((w.alloc (.cells (oW r (.slice A n c)) 90)).alloc (.cells (blC li ra fa) 104)).alloc (.cells zrC 77)):=(((Below.refl _ _).alloc (Nat.le_refl _) _).alloc (by simp) _).alloc (by simp;omega) _;have X1:=Hd X1;have X2:=Hd X2;have HB:=Hd hB0;clear hB0 hf;clear hk;rcases HK with ⟨bk,rfl⟩ | ⟨bk,rfl⟩;all_goals
  go_in;go_wp2_with ((with_reducible refine az ?_ 90 (.tmp 6) ?_ X0.o ?_ _ Tryz.underlying90 ?_ ?_ ?_);(iterate 4 rfl);exact Fj _ _);refine (HFM.o _ HB.o).mono ?_;rintro e w1 ⟨rfl,hb1⟩;have HR:=Hd (Blk.below (Blk.below X2.o hb1) (Below.refl _ _).drew);have HBn:=Hd (aa HB.o hb1).drew;have XB:=Hd (Blk.below (Blk.below X1.o hb1) (Below.refl _ _).drew);clear hb1 X0 X1 X2 HFM HB;have HB:=HBn;clear HBn;go_upto_region 4 with fail;refine wp_region_held_drew (S:=(fun w' =>Blk w' (w.heap.size+1) 104 (blC li ra fa))) (by kernel_rfl) XB.o (fun hHeld=>?_);clear XB;refine tk hHeld 0 ?_ ?_ (tk hHeld 1 ?_ ?_ (tk hHeld 3 ?_ ?_ (tk hHeld 5 ?_ ?_ (tk hHeld 6 ?_ ?_ (tk hHeld 8 ?_ ?_ (tk hHeld 9 ?_ ?_ (tk hHeld 11 ?_ ?_ (tk hHeld 12 ?_ ?_ (tk hHeld 14 ?_ ?_ ?_)))))))));iterate 10
    rotate_left
    · intro w hSw;have kk:=hSw.cell 0;have JH:=hSw.cell 1;have JI:=hSw.cell 2;go_simp;first | (with_reducible rfl) | (rw [if_neg (by first | omega | (simp;omega))])
  refine rdy1 2 (fun K hK=>?_);go_simp;go_at_call 47;refine (hp _).mono ?_;rintro e wl ⟨rfl,hb⟩;have HR:=Hd (Blk.below HR.o hb);have HB:=Hd (aa HB.o hb);have hh:=Blk.below hHeld hb;clear hb;go_simp;refine hK.o _ _ hh (fun hHeld=>?_);clear hK K;clear hh;refine rdy1 4 (fun K hK=>?_);go_simp;go_at_call 50;refine (hq _).mono ?_;rintro e wl ⟨rfl,hb⟩;have HR:=Hd (Blk.below HR.o hb);have HB:=Hd (aa HB.o hb);have hh:=Blk.below hHeld hb;clear hb;go_simp;refine hK.o _ _ hh (fun hHeld=>?_);clear hK K;clear hh;refine rdy1 7 (fun K hK=>?_);go_simp;go_at_call 48;refine (dz _ _ _).mono ?_;rintro e wl ⟨rfl,hb⟩;have HR:=Hd (Blk.below HR.o hb);have HB:=Hd (aa HB.o hb);have hh:=Blk.below hHeld hb;clear hb;go_simp;refine hK.o _ _ hh (fun hHeld=>?_);clear hK K;clear hh;refine rdy1 10 (fun K hK=>?_);go_simp;go_at_call 48;refine (dz _ _ _).mono ?_;rintro e wl ⟨rfl,hb⟩;have HR:=Hd (Blk.below HR.o hb);have HB:=Hd (aa HB.o hb);have hh:=Blk.below hHeld hb;clear hb;go_simp;refine hK.o _ _ hh (fun hHeld=>?_);clear hK K;clear hh;refine rdy1 13 (fun K hK=>?_);go_simp;go_at_call 48;refine (dz _ _ _).mono ?_;rintro e wl ⟨rfl,hb⟩;have HR:=Hd (Blk.below HR.o hb);have HB:=Hd (aa HB.o hb);have hh:=Blk.below hHeld hb;clear hb;go_simp;refine hK.o _ _ hh (fun hHeld=>?_);clear hK K;clear hh;refine rdy1 15 (fun K hK=>?_);go_simp;go_at_call 48;refine (dz _ _ _).mono ?_;rintro e wl ⟨rfl,hb⟩;have HR:=Hd (Blk.below HR.o hb);have HB:=Hd (aa HB.o hb);have hh:=Blk.below hHeld hb;clear hb;go_simp;refine hK.o _ _ hh (fun hHeld=>?_);clear hK K;clear hh;have HRl:=HR;refine rdy1 16 (fun K hK=>?_);have HR:=Hd (HR.o.alloc (.cells (cfP p q li ra fa en) 79));have HB:=Hd (HB.o.alloc HB.o.size (.cells (cfP p q li ra fa en) 79));have hh:=Blk.alloc hHeld (.cells (cfP p q li ra fa en) 79);go_simp;refine hK.o _ _ hh (fun hHeld=>?_);clear hK K;clear hh;refine tk hHeld 17 ?_ ?_ ?_;rotate_left
  · intro w hSw;go_simp;first | (with_reducible rfl) | (rw [if_neg (by first | omega | (simp;omega))])
  have g0:(w.heap.size+1)≠w.heap.size+2:=by omega
  have g1:wl.heap.size≠w.heap.size+2:=by have h1:=HR.o.lt;have h2:=Below.size HB.o;have h3:=hHeld.lt;have h4:=HRl.o.lt;omega
  refine rdy1 18 (fun K hK=>?_);have c0:(wl.alloc (.cells (cfP p q li ra fa en) 79)).cell? ⟨w.heap.size+2,0,none⟩=some (.int .i64 0):=HR.o.cell 0;have c1:(wl.alloc (.cells (cfP p q li ra fa en) 79)).cell? ⟨w.heap.size+2,1,none⟩=some (.int .i64 0):=HR.o.cell 1;have c2:(wl.alloc (.cells (cfP p q li ra fa en) 79)).cell? ⟨w.heap.size+2,2,none⟩=some (.int .i64 0):=HR.o.cell 2;have c3:(wl.alloc (.cells (cfP p q li ra fa en) 79)).cell? ⟨w.heap.size+2,3,none⟩=some (.slice none 0 0):=HR.o.cell 3;have f0:(wl.alloc (.cells (cfP p q li ra fa en) 79)).frozen? ⟨w.heap.size+2,0,none⟩=false:=HR.o.free 0;have f1:(wl.alloc (.cells (cfP p q li ra fa en) 79)).frozen? ⟨w.heap.size+2,1,none⟩=false:=HR.o.free 1;have f2:(wl.alloc (.cells (cfP p q li ra fa en) 79)).frozen? ⟨w.heap.size+2,2,none⟩=false:=HR.o.free 2;have f3:(wl.alloc (.cells (cfP p q li ra fa en) 79)).frozen? ⟨w.heap.size+2,3,none⟩=false:=HR.o.free 3;have hh:=(Blk.af (p:=⟨w.heap.size+2,3,none⟩) (Blk.af (p:=⟨w.heap.size+2,2,none⟩) (Blk.af (p:=⟨w.heap.size+2,1,none⟩) (Blk.af (p:=⟨w.heap.size+2,0,none⟩) hHeld (.int .i64 1305) g0) (.int .i64 t) g0) (.int .i64 0) g0) (.slice (some ⟨wl.heap.size,0,none⟩) 6 6) g0);have HRz:=Hd (((((HR.o).put 0 (.int .i64 1305)).put 1 (.int .i64 t)).put 2 (.int .i64 0)).put 3 (.slice (some ⟨wl.heap.size,0,none⟩) 6 6));have HPz:=Hd ((Blk.af (p:=⟨w.heap.size+2,3,none⟩) (Blk.af (p:=⟨w.heap.size+2,2,none⟩) (Blk.af (p:=⟨w.heap.size+2,1,none⟩) (Blk.af (p:=⟨w.heap.size+2,0,none⟩) (Blk.new wl (cfP p q li ra fa en) 79) (.int .i64 1305) g1) (.int .i64 t) g1) (.int .i64 0) g1) (.slice (some ⟨wl.heap.size,0,none⟩) 6 6) g1));have HBz:=Hd (HB.o.grown ((aD (p:=⟨w.heap.size+2,3,none⟩) (aD (p:=⟨w.heap.size+2,2,none⟩) (aD (p:=⟨w.heap.size+2,1,none⟩) (aD (p:=⟨w.heap.size+2,0,none⟩) (show (wl.alloc (.cells (cfP p q li ra fa en) 79)).grownBy (wl.alloc (.cells (cfP p q li ra fa en) 79)) (some (w.heap.size+2)) from ⟨rfl,rfl,rfl,Nat.le_refl _,fun i hi _=>rfl⟩) (.inl rfl) (.int .i64 1305)) (.inl rfl) (.int .i64 t)) (.inl rfl) (.int .i64 0)) (.inl rfl) (.slice (some ⟨wl.heap.size,0,none⟩) 6 6))) HB.o.size (fun k e=>by injection e with e;omega));go_simp;refine hK.o _ _ hh (fun hHeld=>?_);clear hK K;clear hh c0 c1 c2 c3 f0 f1 f2 f3;refine wpAnyH_done (by kernel_rfl) ?_ _;go_wp2_with fail;refine bodyPost_ret (BV (n:=10) (fn:=Tryz.f29) rfl _ _ (w.heap.size+2) (cfQ p q li ra fa en t) (.slice (some ⟨wl.heap.size,0,none⟩) 6 6) rfl HRz.o) rfl ?_;exact ⟨some ⟨wl.heap.size,0,none⟩,6,rfl,vK EP HPz.o (cfL p q li ra fa en) rfl HPz.o.lt,HBz.o⟩
end Go.Proofs.YtollifnnpihfdaaGreatDoor
namespace Go.Proofs.YtollifnnpihfdaaGreatDoor
open Go.RowKit
theorem CS (w:World):Calls Tryz.prog 118 #[Fh kS (.slice none 0 0)] w fun e w' =>e= .returned (.int .i64 130)∧Below w.heap.size w w' :=by
 have B0:=Hd (show Below w.heap.size w (w.alloc (.cells (oW kS (.slice none 0 0)) 90)) from (Below.refl _ _).alloc (Nat.le_refl _) _);have X0:=Hd (Blk.new w (oW kS (.slice none 0 0)) 90);go_in;go_upto_region 1 with fail;generalize w.alloc (.cells (oW kS (.slice none 0 0)) 90)=W at *;have x0:W.cell? ⟨w.heap.size,0,none⟩=some (.int .i64 0):=X0.o.cell 0;go_wp2_with fail;go_ret;exact ⟨rfl,B0.o⟩
theorem yZ (w:World):Calls Tryz.prog 73 #[Fh kS (.slice none 0 0)] w fun e w' =>e= .returned (.tuple #[.string ⟨#[]⟩, .int .i64 130])∧Below w.heap.size w w' :=by
 have HV:=Hd (CS (w.alloc (.cells (oW kS (.slice none 0 0)) 90)));have HB:=Hd ((Below.refl w.heap.size w).alloc (Nat.le_refl _) (.cells (oW kS (.slice none 0 0)) 90));go_in;go_wp2_with fail;refine HV.o.mono ?_;rintro e w1 ⟨rfl,hb1⟩;go_wp2_with fail;go_ret2;exact ⟨rfl,HB.o.trans (hb1.mono HB.o.size)⟩
theorem za (op:ByteArray) (li ra fa en t:Int) (w:World):Calls Tryz.prog 29 #[.string op,Fh kS (.slice none 0 0), .agg (blC li ra fa), .int .i64 en, .int .i64 t] w (KQ (cfQ (txP ⟨#[111,112]⟩ op) (soP ⟨#[114,117,108,101]⟩ ⟨#[]⟩) li ra fa en t) w):=
 yY op kS none 0 0 ⟨#[]⟩ ⟨#[]⟩ 130 li ra fa en t _ _ (fun w=>iX _ op w) (fun w=>lV _ ⟨#[]⟩ w) (.inr ⟨by decide,rfl⟩) w (fun W _=>yZ W)
end Go.Proofs.YtollifnnpihfdaaGreatDoor
