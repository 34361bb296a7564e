import Derived.Test.YtollifnnpihfdaaGreatDoorB17
import Derived.Test.YtollifnnpihfdaaGreatDoorB31
import Derived.RangeFuncNested
import Derived.RangeFuncBound
import Derived.Test.YtollifnnpihfdaaGreatDoorB32
import Derived.Shelf.RegionOpen
import Derived.OwnWalkIn
import Derived.LoopNIn
import Derived.LoopIn
import Derived.StillTailTactics
import Derived.Lib.TrailingZeros
set_option maxRecDepth 100000
set_option maxHeartbeats 64000000
set_option linter.all false
namespace Go.Proofs.YtollifnnpihfdaaGreatDoor
open Go.RowKit
abbrev dL:Array Value:=#[.int .i64 0, .int .i64 0, .int .i64 0, .int .i64 0, .int .i64 0, .int .i64 0, .int .i64 0, .int .i64 0, .int .i64 0, .int .i64 0, .int .i64 0, .string ⟨#[]⟩, .string ⟨#[]⟩, .slice none 0 0, .bool false, .int .i64 0, .int .i64 0, .int .i64 0, .int .i64 0, .int .i64 0, .slice none 0 0, .slice none 0 0, .int .i64 0, .slice none 0 0, .int .i64 0]
attribute [local irreducible] gT
end Go.Proofs.YtollifnnpihfdaaGreatDoor
namespace Go.Proofs.YtollifnnpihfdaaGreatDoor
open Go.RowKit
theorem xI (c:Ctx) (r:eH) (A:Option Addr) (n cp:Nat):(gT c r (.slice A n cp)).all (·.oneCell')=true:=by simp [gT,Value.oneCell']
def JL (w:World) (base:Nat) (v:Value) (L:List (Itm×bE)):Prop:=w.ownsRow base 73 13 v L.length (L.flatMap fun p=>(bf p.1 p.2).toList)
theorem oC (i:Itm) (r:bE):(bf i r).toList.length=13:=rfl
theorem dX:∀ (L:List (Itm×bE)) (k:Nat) (hk:k < L.length) (j:Nat),j < 13→(L.flatMap fun p=>(bf p.1 p.2).toList)[k * 13+j]? =(bf (L[k]'hk).1 (L[k]'hk).2)[j]?
 | [],k,hk,_,_=>by simp at hk
 | p :: L,0,_,j,hj=>by
  rw [List.flatMap_cons,List.getElem?_append_left (by rw [oC];omega)];simp
 | p :: L,k+1,hk,j,hj=>by
  have ih:=dX L k (by simp at hk;omega) j hj;rw [List.flatMap_cons,List.getElem?_append_right (by rw [oC];omega),oC,show (k+1) * 13+j - 13=k * 13+j by omega,ih];simp
theorem Hz (g a b:Nat):((⟨g,0,none⟩:Addr).add a).add b=⟨g,a+b,none⟩:=by
 unfold Addr.add;split
 · split
   · subst_vars;rfl
   · subst_vars;simp
 · split
   · subst_vars;simp
   · simp
theorem add_zero (g n:Nat):(⟨g,0,none⟩:Addr).add n=⟨g,n,none⟩:=by
 unfold Addr.add;split
 · subst_vars;rfl
 · simp
theorem JL.items {w:World} {base:Nat} {v:Value} {L:List (Itm×bE)} (h:JL w base v L):∃ A c,v= .slice A L.length c∧cz w w.heap.size A L:=by
 rcases Joins.ownsRow_forms h with ⟨rfl,h0⟩ | ⟨g,cap,rfl⟩
 · have:L= []:=List.eq_nil_of_length_eq_zero h0;subst this;exact ⟨none,0,rfl,cz.nil⟩
 · refine ⟨_,cap,rfl,fun k hk=>⟨_,rfl,(World.ownsRow.lt h g rfl).2,fun j hj=>?_⟩⟩;have hf:=dX L k hk j hj;have hs:j < (bf (L[k]'hk).1 (L[k]'hk).2).size:=hj;rw [Array.getElem?_eq_getElem hs] at hf ⊢;have hc:=World.ownsRow.cells h (g:=g) rfl (k * 13+j) _ hf;rw [add_zero] at hc;rw [Hz];exact hc
structure K1 (w wr:World) (base g:Nat) (b:Int) (gc:Nat) (c:Ctx) (r:eH) (it:Value):Prop where
 only:w.grownBy wr (some g)
 src:aV wr base g b
 rb:Blk wr w.heap.size 54 dL
 cb:Blk wr gc 54 (gT c r it)
 h2:w.heap.size < gc
 h3:g < w.heap.size
 h4:base≤w.heap.size
section
variable {w wr w' :World} {base g gc:Nat} {b b' :Int} {c:Ctx} {r:eH} {it:Value}
end
attribute [local irreducible] gT bf
end Go.Proofs.YtollifnnpihfdaaGreatDoor
namespace Go.Proofs.YtollifnnpihfdaaGreatDoor
open Go.RowKit
structure Mid (lo hi:Nat) (A B:World):Prop where
 low:Below lo A B
 high:∀ b,hi≤b→b < A.heap.size→B.heap[b]? =A.heap[b]?
theorem jA {lo l:Nat} (A:World) (o:Obj) (h:lo≤l) (hl:l < A.heap.size):Below lo A (A.putObj l o):=
 (Below.refl lo A).grown (grownBy_putObj' A l o) (by omega) (fun k e=>by cases e;exact h)
variable {F:Fence} {n:Nat} {P:Program}
end Go.Proofs.YtollifnnpihfdaaGreatDoor
namespace Go.Proofs.YtollifnnpihfdaaGreatDoor
open Go.RowKit
abbrev noT:Value:= .slice none 0 0
section
variable {w wr w' :World} {g n c k k' :Nat} {A:Option Addr} {ws:List ByteArray} {b b' :Bool} {r r' :Rul}
end
attribute [local irreducible] df
end Go.Proofs.YtollifnnpihfdaaGreatDoor
namespace Go.Proofs.YtollifnnpihfdaaGreatDoor
open Go.RowKit
structure MkR (r:Rul):Prop where
 ca:r.ca < 18446744073709551616
 pa:r.pa.size≤10
 ke:r.ke.size≤10
 ts:∀ t∈r.ts,(-13≤t.nu∧t.nu≤4294967295)∧t.tx.size≤5
section
variable {w wr w' :World} {base g gc:Nat} {b b' :Int} {r r' :Rul} {tv:Value}
end
structure Ru where
 r:Rul
 A:Option Addr
 c:Nat
theorem Tryz.Ic:(Tryz.prog.info? 90).map (fun i=>(i.zero,i.size,i.bytes))=some (some (.agg (OI Ls noT)),8,96):=by kernel_rfl
def ERu:El Ru where
 C x:= [.int .i64 x.r.li, .int .i64 x.r.ac, .int .u64 (x.r.ca:Int), .slice x.A x.r.ts.length x.c, .int .i64 x.r.wa, .string x.r.pa, .int .i64 x.r.pe, .string x.r.ke]
 e:=90
 sl:=38
 sz:=8
 bs:=96
 len _:=rfl
 one x u hu:=by simp at hu;rcases hu with rfl | rfl | rfl | rfl | rfl | rfl | rfl | rfl <;> rfl
 pos:=by omega
 small:=by omega
 hu:=Tryz.underlying38
 info:=by
  obtain ⟨i0,h1,h2,h3,h4⟩:=info_parts Tryz.Ic;exact ⟨i0,_,h1,h2,h3,h4,rfl⟩
def GdR (r:Rul):Prop:=MkR r∧r.ts.length≤3
structure yP (w:World) (B:Nat) (A:Option Addr) (xs:List Ru):Prop where
 at_:AtE ERu w B A xs
 few:xs.length≤1000
 ts:∀ x∈xs,iZ w B x.A x.r.ts∧GdR x.r
section
variable {w w' :World} {B B' base:Nat} {A:Option Addr} {v v' :Value} {xs:List Ru}
theorem yP.keep (h:yP w B A xs) (hb:Below B' w w') (hB:B≤B'):yP w' B A xs:=⟨h.at_.keep hb hB,h.few,fun x hx=>⟨(h.ts x hx).1.keep hb hB,(h.ts x hx).2⟩⟩
theorem yP.more (h:yP w B A xs) (hB:B≤B'):yP w B' A xs:=⟨h.at_.more hB,h.few,fun x hx=>⟨(h.ts x hx).1.more hB,(h.ts x hx).2⟩⟩
end
theorem xP {P:Program} {w:World} {a:Addr} {ty:TypeId} {cs:Array Value} {d:TypeDesc} (h:∀ j v,cs.toList[j]? =some v→w.cell? (a.add j)=some v)
  (hu:P.underlying ty=some d) (hd:(match d with | .struct _ | .array _ _=>true | _=>false)=true) (hi:(P.info? ty).map (·.size)=some cs.size):
  (loadVar ty a).run P w= .ok (.agg cs) w:=by
 have hl:(loadCells a cs.toList.length).run P w= .ok cs.toList.toArray w:=run_loadCells_list (P:=P) w a cs.toList h;cases hq:P.info? ty with
 | none=>simp [hq] at hi
 | some i=>
  have hs:i.size=cs.size:=by simpa [hq] using hi
  have hagg:(isAgg ty).run P w= .ok true w:=by
   unfold isAgg;rw [Sem.run_bind,run_underlying hu w];cases d <;> simp_all
  simp only [Array.length_toList,Array.toArray_toList] at hl;simp [loadVar,Sem.run_bind,hagg,sizeOf,typeInfo,hq,hs,hl]
theorem DY {w:World} {a:Addr} {i:Itm} {r:bE} (h:∀ j,j < 13→w.cell? (a.add j)=(bf i r)[j]?):(loadVar 73 a).run Tryz.prog w= .ok (.agg (bf i r)) w:=
 xP (fun j v hv=>by
  have hj:j < 13:=by
   rcases Nat.lt_or_ge j 13 with hj | hj
   · exact hj
   · rw [List.getElem?_eq_none (by show 13≤j;exact hj)] at hv;cases hv
  rw [h j hj];simpa using hv) Tryz.underlying73 rfl (jQ _ _)
theorem DZ (x y:Int):(Tryz.prog.info? 44).map (·.size)=some (#[Value.int .i64 x, .int .i64 y]:Array Value).size:=by show _=some 2;kernel_rfl
theorem Ea {w:World} {b o:Nat} {x y:Int} (h5:w.cell? ⟨b,o,none⟩=some (.int .i64 x)) (h6:w.cell? ⟨b,o+1,none⟩=some (.int .i64 y)):(loadVar 44 ⟨b,o,none⟩).run Tryz.prog w= .ok (.agg #[.int .i64 x, .int .i64 y]) w:=
 xP (fun j v hv=>by
  match j with
  | 0=>simp at hv;subst hv;exact h5
  | 1=>simp at hv;subst hv;exact h6
  | j+2=>simp at hv) Tryz.underlying44 rfl (DZ _ _)
theorem OJ (a:Addr) (w:World):(loadVar 52 a).run Tryz.prog w=(load a).run Tryz.prog w:=by
 unfold loadVar;simp [go_sem]
attribute [local irreducible] gT pJ wL iJ wQ wR zz KI
attribute [-go_sem] loadVar
attribute [local go_sem] DV DW OJ
end Go.Proofs.YtollifnnpihfdaaGreatDoor
namespace Go.Proofs.YtollifnnpihfdaaGreatDoor
open Go.RowKit
theorem iK.num {w:World} {g:Nat} {c:Ctx} {r:eH} {it:Value} (h:iK w g c r it):w.cell? ⟨g,15,none⟩=some (.int .i64 r.n):=h.cell 15
theorem Ad (c:Ctx) (r:eH) (it:Value) (t:Int):(gT c r it).setIfInBounds 24 (.int .i64 t)=gT { c with ty:=t } r it:=rfl
theorem Ii (a:Addr) (w:World):(loadVar 86 a).run Tryz.prog w=(load a).run Tryz.prog w:=by
 unfold loadVar;simp [go_sem]
theorem Ij (a:Addr) (w:World):(loadVar 88 a).run Tryz.prog w=(load a).run Tryz.prog w:=by
 unfold loadVar;simp [go_sem]
theorem Ik (a:Addr) (w:World):(loadVar 38 a).run Tryz.prog w=(load a).run Tryz.prog w:=by
 unfold loadVar;simp [go_sem]
attribute [-go_sem] loadVar
attribute [local go_sem] DV DW Ii Ij Ik
attribute [local irreducible] gT hasB iJ zz xN
end Go.Proofs.YtollifnnpihfdaaGreatDoor
namespace Go.Proofs.YtollifnnpihfdaaGreatDoor
open Go.RowKit
attribute [-go_sem] loadVar
attribute [local go_sem] DV DW Ii Ij Ik
attribute [local irreducible] gT BO
theorem Eb {t:Int} (h:BQ t=true):t=1005∨t=1300∨t=1306∨t=1307∨t=1302∨t=1309:=by
 unfold BQ at h;simp only [Bool.or_eq_true,beq_iff_eq] at h;omega
theorem Il {t:Int} (h:BQ t=false):(t == 1005)=false∧(t == 1300)=false∧(t == 1306)=false∧(t == 1307)=false∧(t == 1302)=false∧(t == 1309)=false:=by
 unfold BQ at h;simp only [Bool.or_eq_false_iff] at h;obtain ⟨⟨⟨⟨⟨h1,h2⟩,h3⟩,h4⟩,h5⟩,h6⟩:=h;exact ⟨h1,h2,h3,h4,h5,h6⟩
end Go.Proofs.YtollifnnpihfdaaGreatDoor
namespace Go.Proofs.YtollifnnpihfdaaGreatDoor
open Go.RowKit
theorem Na (a:Addr) (w:World):(loadVar 203 a).run Tryz.prog w=(load a).run Tryz.prog w:=by
 unfold loadVar;simp [go_sem]
attribute [-go_sem] loadVar
attribute [local go_sem] DV DW Ii Ij Ik Na
attribute [local irreducible] gT hasB iJ zz xN
end Go.Proofs.YtollifnnpihfdaaGreatDoor
namespace Go.Proofs.YtollifnnpihfdaaGreatDoor
open Go.RowKit
def Ng {α:Type} (F:Fence) (n:Nat) (P:Program) (g:Nat) (lb:Array Value) (enc:α→Value) (G:α→Prop) (lo hi:Nat) (R:World→World→Prop) (S Sp:List α→Prop) (N:Nat) (w:World):Prop:=
 ∀ (l:Nat) (J Jx:List α→World→Prop) (W:World),Below w.heap.size w W→(∀ pre A B,J pre A→Mid lo hi A B→J pre B)→(∀ pre A B,Jx pre A→Mid lo hi A B→Jx pre B)→
  (∀ pre x A,G x→J pre A→pre.length < N→YieldAt F (n - 1) P l #[enc x] A fun e B=>
   (e= .returned (.bool true)∧J (pre ++ [x]) B∧R A B)∨(e= .returned (.bool false)∧Jx (pre ++ [x]) B))→
  J [] W→
  CallsIn F n P g (#[.func (.yield l) #[] #[]] ++ lb) W fun e B=>(∃ v,e= .returned v)∧((∃ xs,S xs∧J xs B)∨(∃ pre,Sp pre∧Jx pre B))
variable {F:Fence} {n:Nat} {P:Program}
end Go.Proofs.YtollifnnpihfdaaGreatDoor
