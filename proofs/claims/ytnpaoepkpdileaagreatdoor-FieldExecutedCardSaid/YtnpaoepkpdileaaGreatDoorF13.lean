import Derived.LaidSub
import Derived.Stop.Joined
import Derived.Test.YtnpaoepkpdileaaGreatDoorF12
import Derived.Lib.SplitLaws
import Derived.Lib.Join
import Derived.Deep.DrawnRows
import Derived.Lib.MapLaws
import Derived.Lib.IndexAny
import Derived.Test.YtnpaoepkpdileaaGreatDoorF10
import Derived.Test.YtnpaoepkpdileaaGreatDoorRows
set_option maxRecDepth 100000
set_option maxHeartbeats 64000000
set_option linter.all false
namespace Go.Proofs.YtnpaoepkpdileaaGreatDoor
open Go.ChangeShapes Go.WideShapes Go.ChangeAt Go.RowKit
theorem oU {P:Program} {w:World} :∀ {l:List (String×DataW Unit)} {ps:List MemPlace},DataW.LaidVars P w l ps→∀ (i:Nat) (n:String) (d:DataW Unit),l[i]? =some (n,d)→
  ∃ g t cs fuel p,P.globalNamed n=some g∧(P.globals[g]?).map (·.type)=some t∧w.var? P n=some cs∧DataW.trod (fun _=>()) P w 0 (fun _=>true) false fuel t cs.toList=some (d,p)
 | [],_,_,i,n,d,hm=>by simp at hm
 | (n',d') :: r,ps,h,i,n,d,hm=>by
  obtain ⟨g,t,cs,fuel,p,q,h1,h2,h3,h4,h5,_⟩:=h
  match i,hm with
  | 0,hm=>
   simp at hm;obtain ⟨rfl,rfl⟩:=hm;exact ⟨g,t,cs,fuel,p,h1,h2,h3,h4⟩
  | i+1,hm=>exact oU h5 i n d (by simpa using hm)
theorem tab_of_laid {P:Program} {W:World} {laid:List (String×DataW Unit)} {name:String} {k:IntKind} {zs:List Int} {g:Nat} {t e:TypeId} {n:Nat} (i:Nat)
  (hpl:(laid.all fun x=>x.2.handleName?.isNone)=true) (h:laidMetH P laid W) (hi:laid[i]? =some (name,Lib.tabData k zs))
  (hg:P.globalNamed name=some g) (hty:(P.globals[g]?).map (·.type)=some t) (ht:P.underlying t=some (.array n e)) (he:P.underlying e=some (.int k)) (hce:P.cellsOf e=1) (hct:P.cellsOf t=n):Lib.TabIs P W name k zs:=by
 rw [MakeChecks.laidMetH_plain _ _ _ hpl] at h;obtain ⟨ps,hv,_⟩:=h;obtain ⟨g',t',cs,fuel,p,hg',ht',hvar,hd⟩:=oU hv i name _ hi;obtain rfl:=Option.some.inj (hg.symm.trans hg');obtain rfl:=Option.some.inj (hty.symm.trans ht');unfold Lib.TabIs;rw [hvar, ← Lib.cells_of_tab ht he hce hct hd]
section
variable {H:Type} {enc:TypeId×Value→H} {P:Program}
theorem iN (hl:laidOutB P=true) {W W' :World} (hb:Below W.heap.size W W'):∀ {ts:List TypeId} {vs:List Value} {ds:List (DataW H)} {ps:List MemPlace},
  (∀ t∈ts,P.readableRec t=true∧t < P.types.size)→DataW.TrodAll enc P W 0 (fun _=>true) true ts vs ds ps→(∀ x∈ps,x.block < W.heap.size)→
  DataW.TrodAll enc P W' 0 (fun b=>decide (b < W.heap.size)) true ts vs ds ps
 | [],vs,ds,ps,_,h,_=>by
  obtain ⟨rfl,rfl,rfl⟩:=trodAll_nil h;exact trodAll_mk0
 | t :: ts,vs,ds,ps,ht,h,hlt=>by
  obtain ⟨v,vs1,d,ds1,p,q,rfl,rfl,rfl,h1,h2⟩:=trodAll_cons h;have hh:=ht t List.mem_cons_self;exact trodAll_cons_mk (Below.trod hl hh.1 hh.2 h1 hb fun x hx=>hlt x (List.mem_append_left _ hx))
   (iN hl hb (fun u hu=>ht u (List.mem_cons_of_mem _ hu)) h2 fun x hx=>hlt x (List.mem_append_right _ hx))
theorem law_mono {f:FuncId} {args:Array Value} {W:World} {Q:Ending→World→Prop} (h:Calls P f args W fun e w' =>e= .returned (.bool true)∧Below W.heap.size W w')
 (k:∀ W',Below W.heap.size W W' →Q (.returned (.bool true)) W'):Calls P f args W Q:=h.mono fun _ w' hh=>hh.1 ▸ k w' hh.2
theorem post_law {f:Func} {s:ChangeSpec} {W W' :World} {args:Array Value} {ds gs:List (DataW H)} {before:List MemPlace} {b:TypeId}
   (hl:laidOutB P=true) (hp:(f.params.toList.all fun t=>P.readableRec t && decide (t < P.types.size))=true) (hr:f.resultTypes=#[b]) (EE:P.underlying b=some .bool)
   (hW:DataW.Whole enc P f.params.toList s.vars false W args.toList ds gs before) (hv:s.vars= []) (hfn:s.fn H (ds ++ gs)= { results:= [.lit (.bool true)],args:=ds }) (hb:Below W.heap.size W W'):
   s.post enc P f false true false false W args (.bool true) W' :=by
 have hlt:∀ p∈before,p.block < W.heap.size:=fun p hp=>hW.lt p hp;obtain ⟨p,q,hA,hV,rfl,hfz,hnd⟩:=id hW;have hV' :=hV;rw [hv] at hV';obtain ⟨rfl,rfl⟩:=trodVars_none hV';refine ⟨ds, [],_, [],p, [],hW,?_,?_,?_,hb.frame _,fun h=>by cases h⟩
 · rw [hfn,hr];exact trodAll_mk1 (shut_bool EE _)
 · rw [hfn];exact iN hl hb (fun t ht=>by simpa using List.all_eq_true.1 hp t ht) hA fun x hx=>hlt x (List.mem_append_left _ hx)
 · rw [hfn,hv];rfl
theorem ints_arg {W:World} {base:Nat} {t e:TypeId} {v:Value} {d:DataW H} {p:List MemPlace} (ht:P.underlying t=some (.slice e)) (he:P.underlying e=some (.int .i64)) (hc:P.cellsOf e=1)
   (hv:Value.okWide P W .any base t v) (h:DataW.Trod enc P W 0 (fun _=>true) true t v d p) (hlt:∀ x∈p,x.block < W.heap.size):
   ∃ (A:Option Addr) (n c:Nat),v= .slice A n c∧(n:Int)≤9223372036854775807∧∀ k,k < n→∃ (ad:Addr) (z:Int),A=some ad∧ad.block < W.heap.size∧W.cell? (ad.add k)=some (.int .i64 z)∧ -9223372036854775808≤z∧z≤9223372036854775807:=by
 obtain ⟨a0,len,cap,rfl⟩:=okWide_slice ht hv;obtain ⟨fuel,hf⟩:=h;rcases open_ints ht he hc hf with ⟨hcs,hx⟩ | ⟨a,len',cap',zs,hcs,_,hl,hm,hz,hx,hcell,hwz⟩
 · simp [Value.cells] at hcs;obtain ⟨rfl,rfl,rfl⟩:=hcs;exact ⟨none,0,0,rfl,by omega,fun k hk=>by omega⟩
 · simp [Value.cells] at hcs;obtain ⟨rfl,rfl,rfl⟩:=hcs;simp only [if_true] at hz;unfold maxLen at hm;refine ⟨some a,len,cap,rfl,by omega,fun k hk=>?_⟩;have hkz:k < zs.length:=(by omega);have hw:=bounds_i64 (hwz (zs.getD k 0) (by rw [List.getD_eq_getElem?_getD,List.getElem?_eq_getElem hkz];exact List.getElem_mem hkz));refine ⟨a,zs.getD k 0,rfl,?_,hcell k hkz,hw.1,hw.2⟩;injection hx with _ hp;have hmem:MemPlace.cell a.block (a.off+0)∈p:=by
    rw [hp];unfold MemPlace.row;simp;omega
   exact hlt _ hmem
end
abbrev zW (c:Ctx) (r:cZ):Array Value:=#[.int .i64 (c.p 0), .int .i64 (c.p 1), .int .i64 (c.p 2), .int .i64 (c.p 3), .int .i64 (c.p 4), .int .i64 (c.p 5), .int .i64 (c.p 6), .int .i64 (c.p 7), .int .i64 r.d, .int .i64 r.i, .string c.comm, .string c.exe,r.o.v, .bool r.u]
attribute [local irreducible] dR aG bD
theorem Jh (w:World) (c:Ctx) (r:cZ) (it:Value) (i:Itm) (ir:aS) (W:World) (hW:W=((w.alloc (.cells (dR c r it) 36)).alloc (.cells (aG i ir) 77)).alloc (.cells (zW c r) 29)):
  cB W w.heap.size c r it∧nX W (w.heap.size+1) i ir∧Blk W (w.heap.size+1+1) 29 (zW c r)∧Below w.heap.size w W:=by
 subst hW;have h3:=Blk.new ((w.alloc (.cells (dR c r it) 36)).alloc (.cells (aG i ir) 77)) (zW c r) 29;refine ⟨(pE w c r it _).alloc _,(rq w i ir _).alloc _,by simpa using h3,(((Below.refl _ _).alloc (Nat.le_refl _) _).alloc (by simp) _).alloc (by simp;omega) _⟩
theorem qx (c:Ctx) (r:cZ) (it:Value) (i:Itm) (ir:aS) (f:Int) (hf:1≤f∧f≤22) (h13:f≠13) (h14:f≠14) (w:World):Calls Tryz.prog 44 #[.int .i64 f,rV c r it,mJ i ir] w fun e w' =>e= .returned (.int .i64 (rU c i f))∧Below w.heap.size w w' :=by
 have HC:=pE w c r it (.cells (aG i ir) 77);have q1:=HC.p0;have q2:=HC.p1;have q3:=HC.p2;have q4:=HC.p3;have q5:=HC.p4;have q6:=HC.p5;have q7:=HC.p6;have q8:=HC.p7;have q9:=HC.c9;have q10:=HC.c10;have q11:=HC.comm;have q12:=HC.exe;have q13:=HC.c13;have q14:=HC.c14;clear HC;obtain ⟨hC,hI,hP,hB⟩:=Jh w c r it i ir _ rfl;have HB:=Hd hB;have s0:=hP.cell 0;have s1:=hP.cell 1;have s2:=hP.cell 2;have s3:=hP.cell 3;have s4:=hP.cell 4;have s5:=hP.cell 5;have s6:=hP.cell 6;have s7:=hP.cell 7;have a0:=hC.a0;have a1:=hC.a1;have a2:=hC.a2;have a3:=hC.a3;have ex:=hC.ex;have ty:=hC.ty;have i0:=hI.ino;have i1:=hI.dev;have i2:=hI.uid;have i3:=hI.gid;have i4:=hI.kind;clear hC hI hP hB;have hcs:f=1∨f=2∨f=3∨f=4∨f=5∨f=6∨f=7∨f=8∨f=9∨f=10∨f=11∨f=12∨f=15∨(f=16∧0≤c.ex)∨(f=16∧c.ex < 0)∨f=17∨f=18∨f=19∨f=20∨f=21∨f=22:=by omega
 clear hf h13 h14;rcases hcs with rfl | rfl | rfl | rfl | rfl | rfl | rfl | rfl | rfl | rfl | rfl | rfl | rfl | ⟨rfl,hx⟩ | ⟨rfl,hx⟩ | rfl | rfl | rfl | rfl | rfl | rfl;all_goals
  go_in;go_wp2_with fail;go_ret;exact ⟨bz (by unfold rU;simp;try (first | omega | (split <;> omega))),HB.o⟩
theorem Cz (c:Ctx) (r:cZ) (it:Value) (f:Int) (w:World):Calls Tryz.prog 23 #[.int .i64 f,rV c r it] w fun e w' =>e= .returned (.bool (eU c f))∧Below w.heap.size w w' :=by
 have HC:cB (w.alloc (.cells (dR c r it) 36)) w.heap.size c r it:=Blk.new w _ _;have HB:=Hd ((Below.refl w.heap.size w).alloc (Nat.le_refl _) (.cells (dR c r it) 36));have q0:=HC.ph;have q1:=HC.ty;clear HC;by_cases h:15≤f∧f≤21
 · have HE:=Hd (show eU c f=(c.ph == 2) by rw [kC h,deq]);go_in;go_wp2_with fail;go_ret;exact ⟨bR HE.o.symm,HB.o⟩
 · by_cases h22:f=22
   · subst h22;(have HE:=Hd (show eU c 22=(c.ty != 0) by rw [nY];by_cases h:c.ty=0 <;> simp [h]));clear h;go_in;go_wp2_with fail;go_ret;exact ⟨bR HE.o.symm,HB.o⟩
   · have HE:=Hd (show eU c f=true by unfold eU;rw [if_neg h];simp [h22]);have b:(f != 22)=true:=(by simpa using h22);have hc:f < 15∨21 < f:=(by omega);clear h h22;rcases hc with h | h;all_goals
      go_in;go_wp2_with fail;go_ret;exact ⟨bR HE.o.symm,HB.o⟩
end Go.Proofs.YtnpaoepkpdileaaGreatDoor
namespace Go.Proofs.YtnpaoepkpdileaaGreatDoor
def NoC (c:UInt8) (s:ByteArray):Prop:=∀ b∈s.data.toList,b≠c
def joinL (c:UInt8):List ByteArray→List UInt8
 | []=> []
 | x :: L=>x.data.toList ++ Lib.joinTail [c] (L.map (·.data.toList))
theorem lQ (c:UInt8) (x y:ByteArray) (L:List ByteArray):joinL c (x :: y :: L)=x.data.toList ++ c :: joinL c (y :: L):=by
 simp [joinL,Lib.joinTail]
structure IsW (c:UInt8) (s:ByteArray) (L:List ByteArray):Prop where
 ne:L≠ []
 no:∀ x∈L,NoC c x
 eq:s.data.toList=joinL c L
theorem bsz (s:ByteArray):s.data.toList.length=s.size:=by simp
theorem IsW.size {c:UInt8} {s:ByteArray} {L:List ByteArray} (h:IsW c s L):L.length≤s.size+1∧∀ x∈L,x.size≤s.size:=by
 have key:∀ L:List ByteArray,L.length≤(joinL c L).length+1∧∀ x∈L,x.size≤(joinL c L).length:=by
  intro L;induction L with
  | nil=>simp
  | cons x L ih=>
   cases L with
   | nil=>
    refine ⟨by simp,fun z hz=>?_⟩;rw [List.mem_singleton.1 hz, ← bsz];simp [joinL,Lib.joinTail]
   | cons y L=>
    rw [lQ];obtain ⟨h1,h2⟩:=ih;refine ⟨by simp at h1 ⊢;omega,?_⟩;intro z hz;rcases List.mem_cons.1 hz with rfl | hz
    · rw [← bsz];simp
    · have:=h2 z hz;simp;omega
 have:=key L;rw [← h.eq,bsz] at this;exact this
def jQ (c:UInt8) (D:List ByteArray):List UInt8:=(D.map (fun d=>d.data.toList ++ [c])).flatten
theorem lS (c:UInt8) (x:ByteArray):∀ D:List ByteArray,jQ c D ++ x.data.toList=joinL c (D ++ [x])
 | []=>by simp [jQ,joinL,Lib.joinTail]
 | [d]=>by simp [jQ,joinL,Lib.joinTail]
 | d :: e :: D=>by
  have ih:=lS c x (e :: D);have h1:jQ c (d :: e :: D)=d.data.toList ++ c :: jQ c (e :: D):=by simp [jQ]
  have h2:d :: e :: D ++ [x]=d :: e :: (D ++ [x]):=rfl;have h3:e :: D ++ [x]=e :: (D ++ [x]):=rfl;rw [h1,h2,lQ, ← h3, ← ih];simp
structure gX (c:UInt8) (s:ByteArray) (D:List ByteArray) (m i:Nat):Prop where
 le:m≤i
 top:i≤s.size
 eq:s.data.toList.take m=jQ c D
 no:∀ d∈D,NoC c d
 rest:∀ j,m≤j→j < i→s.data.toList[j]? ≠some c
theorem gX.start (c:UInt8) (s:ByteArray):gX c s [] 0 0:=⟨Nat.le_refl _,Nat.zero_le _,rfl,by simp,fun _ _ h=>absurd h (Nat.not_lt_zero _)⟩
theorem gX.next {c:UInt8} {s:ByteArray} {D:List ByteArray} {m i:Nat} (h:gX c s D m i) (hi:i < s.size) (hc:s[i]≠c):gX c s D m (i+1):=
 ⟨by have:=h.le;omega,hi,h.eq,h.no,fun j h1 h2=>by
  by_cases e:j=i
  · subst e;rw [List.getElem?_eq_getElem (by rw [bsz];exact hi)];intro e;exact hc (Option.some.inj e)
  · exact h.rest j h1 (by omega)⟩
theorem gY (s:ByteArray) (a b:Nat):(s.extract a b).data.toList=(s.data.toList.take b).drop a:=by
 rw [Lib.extract_data];simp [List.drop_take]
theorem gX.piece {c:UInt8} {s:ByteArray} {D:List ByteArray} {m i:Nat} (h:gX c s D m i):NoC c (s.extract m i):=by
 intro b hb e;rw [gY] at hb;obtain ⟨j,hj,he⟩:=List.mem_iff_getElem.1 hb;rw [List.getElem_drop,List.getElem_take] at he;rw [List.length_drop,List.length_take] at hj;refine h.rest (m+j) (by omega) (by omega) ?_;rw [List.getElem?_eq_getElem (by omega),he,e]
theorem gX.cut {c:UInt8} {s:ByteArray} {D:List ByteArray} {m i:Nat} (h:gX c s D m i) (hi:i < s.size) (hc:s[i]=c):gX c s (D ++ [s.extract m i]) (i+1) (i+1):=by
 have hi' :i < s.data.toList.length:=by rw [bsz];exact hi
 refine ⟨Nat.le_refl _,hi,?_,?_,fun j h1 h2=>absurd h2 (by omega)⟩
 · have hg:s.data.toList[i]=c:=hc;have e1:s.data.toList.take (i+1)=s.data.toList.take i ++ [c]:=(by rw [List.take_succ_eq_append_getElem hi',hg]);have e2:s.data.toList.take i=s.data.toList.take m ++ (s.extract m i).data.toList:=by
     rw [gY]
     conv=>lhs;rw [← List.take_append_drop m (s.data.toList.take i),List.take_take,Nat.min_eq_left h.le]
   rw [e1,e2,h.eq];simp [jQ]
 · intro d hd;rcases List.mem_append.1 hd with h1 | h1
   · exact h.no d h1
   · rw [List.mem_singleton.1 h1];exact h.piece
theorem gX.done {c:UInt8} {s:ByteArray} {D:List ByteArray} {m:Nat} (h:gX c s D m s.size):IsW c s (D ++ [s.extract m s.size]):=by
 refine ⟨by simp,?_,?_⟩
 · intro d hd;rcases List.mem_append.1 hd with h1 | h1
   · exact h.no d h1
   · rw [List.mem_singleton.1 h1];exact h.piece
 · rw [← lS, ← h.eq,gY];have:s.data.toList.take s.size=s.data.toList:=List.take_of_length_le (by rw [bsz];exact Nat.le_refl _);rw [this,List.take_append_drop]
theorem gX.count {c:UInt8} {s:ByteArray} {D:List ByteArray} {m i:Nat} (h:gX c s D m i):D.length≤m:=by
 have:∀ D:List ByteArray,D.length≤(jQ c D).length:=by
  intro D;induction D with
  | nil=>simp
  | cons d D ih=>
   have:jQ c (d :: D)=d.data.toList ++ c :: jQ c D:=(by simp [jQ]);rw [this];simp;omega
 have h1:=this D;rw [← h.eq,List.length_take] at h1;omega
def Ji (c:UInt8):Bool:=decide (48≤c.toNat) && decide (c.toNat≤57)
def Jj (l:List UInt8):Nat:=l.foldl (fun v c=>10 * v+(c.toNat - 48)) 0
def CG (l:List UInt8):Bool:=decide (1≤l.length) && decide (l.length≤4) && !(l.head? == some 48 && decide (1 < l.length))
def FR (s:ByteArray):Option Nat:=if CG s.data.toList && s.data.toList.all Ji then some (Jj s.data.toList) else none
def xy (c:UInt8) (s:ByteArray):List ByteArray:=Lib.splitB ⟨#[c]⟩ 0 (Lib.countB s ⟨#[c]⟩) s
def FT:List ByteArray→Option (Nat×Nat)
 | [x]=>(FR x).map fun n=>(n,n)
 | [x,y]=>match FR x,FR y with
  | some a,some b=>if a≤b then some (a,b) else none
  | _,_=>none
 | _=>none
def FU (s:ByteArray):Option (Nat×Nat):=FT (xy 45 s)
def nums (x:ByteArray):List Nat:=match FU x with
 | some (a,b)=>List.range' a (min (b+1) 32 - a)
 | none=> []
def gD (x:ByteArray):Bool:=decide (x.size≠0)
open Go.ChangeShapes Go.WideShapes Go.RowKit
def cK (w:World) (B:Nat) (A:Option Addr) (ss:List ByteArray):Prop:=∀ k (hk:k < ss.length),∃ ad:Addr,A=some ad∧ad.block < B∧w.cell? (ad.add k)=some (.string (ss[k]'hk))
theorem jC (a:Addr) (n:Nat):(a.add n).block=a.block:=by unfold Addr.add;split <;> rfl
theorem cK.keep {w w' :World} {B B' :Nat} {A:Option Addr} {ss:List ByteArray} (h:cK w B A ss) (hb:Below B' w w') (hB:B≤B'):cK w' B A ss:=fun k hk=>by
 obtain ⟨ad,e,hl,hc⟩:=h k hk;exact ⟨ad,e,hl,(hb.cell (by rw [jC];omega)).trans hc⟩
theorem cK.more {w:World} {B B' :Nat} {A:Option Addr} {ss:List ByteArray} (h:cK w B A ss) (hB:B≤B'):cK w B' A ss:=fun k hk=>by
 obtain ⟨ad,e,hl,hc⟩:=h k hk;exact ⟨ad,e,by omega,hc⟩
theorem cK.nil {w:World} {B:Nat} {A:Option Addr} :cK w B A []:=fun k hk=>by simp at hk
def jb (ss:List ByteArray) (m:Nat):Bool:=ss.any fun s=>decide (m < s.size)
theorem vg {ss:List ByteArray} {m k:Nat} (hk:k < ss.length) (h:m < ss[k].size):jb ss m=true:=by
 unfold jb;rw [List.any_eq_true];exact ⟨ss[k],List.getElem_mem hk,by simpa using h⟩
theorem qz {ss:List ByteArray} {m:Nat} (h:∀ j (hj:j < ss.length),ss[j].size≤m):jb ss m=false:=by
 unfold jb;rw [List.any_eq_false];intro s hs;obtain ⟨j,hj,rfl⟩:=List.getElem_of_mem hs;simpa using h j hj
theorem Tryz.CJ:(Tryz.prog.info? 9).map (fun i=>(i.zero,i.size,i.bytes))=some (some (.string ⟨#[]⟩),1,16):=by kernel_rfl
def cO (w:World) (base:Nat) (v:Value) (L:List ByteArray):Prop:=w.ownsRow base 9 1 v L.length (L.map Value.string)
theorem cO.o {w:World} {base:Nat} {v:Value} {L:List ByteArray} (h:cO w base v L):w.ownsRow base 9 1 v L.length (L.map Value.string):=h
theorem cO.nil (w:World) (base:Nat):cO w base (.slice none 0 0) []:=World.ownsRow_nil _ _ _ _
theorem cO.alloc {w:World} {base:Nat} {v:Value} {L:List ByteArray} (h:cO w base v L) (o:Obj):cO (w.alloc o) base v L:=World.ownsRow.alloc h o
theorem cO.below {w w' :World} {base:Nat} {v:Value} {L:List ByteArray} (h:cO w base v L) (hb:Below w.heap.size w w'):cO w' base v L:=
 World.ownsRow.kept (row:=none) h ⟨hb.os,hb.tape,hb.output,hb.size,fun i hi _=>hb.block i hi⟩ (by
  cases hv:v.ownBlock with
  | none=>exact .inl rfl
  | some k=>exact .inr (by simp))
theorem kE (w:World) (base:Nat) (ty:TypeId) (v:Value) (L:List ByteArray) (B:Nat) (A:Option Addr) (n c:Nat) (ss:List ByteArray) (hn:n=ss.length) (hown:cO w base v L) (hr:cK w B A ss) (hlen:L.length+ss.length≤1000000) (hbase:base≤w.heap.size):
   ∃ v' w',(Builtin.append_ #[31,31] ty #[v, .slice A n c]).run Tryz.prog w= .ok v' w' ∧cO w' base v' (L ++ ss)∧w.grownBy w' v.ownBlock∧(v'.ownBlock=v.ownBlock∨v'.ownBlock=some w.heap.size):=by
 subst hn;obtain ⟨i0,hi,hz0,hz1,hz2⟩:=info_parts Tryz.CJ;have h:=hown.o;rcases A with _ | ad
 · have hss:ss= []:=by
     cases ss with
     | nil=>rfl
     | cons s r=>obtain ⟨ad,e,_⟩:=hr 0 (by simp);cases e
   subst hss;refine ⟨v,w,?_,by simpa using hown,World.grownBy.refl w _, .inl rfl⟩;rcases h.2 with ⟨rfl,_⟩ | ⟨g,cap,cur,rfl,_,_,hnc,_⟩
   · simp [Builtin.append_,run_underlying Tryz.underlying31,sizeOf,typeInfo,hi,Builtin.lenOf,Builtin.firstCells]
   · simp [Builtin.append_,run_underlying Tryz.underlying31,sizeOf,typeInfo,hi,Builtin.lenOf,Builtin.firstCells,hnc,storeCells]
 · obtain ⟨v',w',hrun,h2,h3,_,h5⟩:=run_append_own_at (P:=Tryz.prog) w base 31 ty 9 i0 _ 1 16 Tryz.underlying31 hi hz0 hz1 hz2 rfl (by omega) v L.length _ h ad ss.length c (ss.map Value.string) (by simp) (fun j u hu=>by
     have hj:j < ss.length:=(by have:=(List.getElem?_eq_some_iff.1 hu).1;simpa using this);obtain ⟨ad',e,_,hc⟩:=hr j hj;cases e;rw [hc, ← hu,List.getElem?_map,List.getElem?_eq_getElem hj];rfl) (by
     intro u hu;obtain ⟨s,_,rfl⟩:=List.mem_map.1 hu;rfl) (by unfold maxLen;omega) (by omega) hbase
   refine ⟨v',w',hrun,?_,h3,h5⟩;show w'.ownsRow base 9 1 v' (L ++ ss).length ((L ++ ss).map Value.string);simpa using h2
theorem iC {o:Oper} {a:Act} {w:World} {K:Act→World→Prop} {Q:Exit→Act→World→Prop} (s x:Operand) (ho:o.op= .call { callee:= .builtin .append,args:=#[s,x],argTypes:=#[31,31] })
  (base:Nat) (v:Value) (L:List ByteArray) (hs:a.eval s=v) (hown:cO w base v L) (B:Nat) (A:Option Addr) (n c:Nat) (ss:List ByteArray) (hx:a.eval x= .slice A n c) (hn:n=ss.length) (hr:cK w B A ss) (hlen:L.length+ss.length≤1000000) (hbase:base≤w.heap.size)
  (h:∀ v' w',cO w' base v' (L ++ ss)→w.grownBy w' v.ownBlock→(v'.ownBlock=v.ownBlock∨v'.ownBlock=some w.heap.size)→K (a.put o.dst v') w'):o.wp Tryz.prog a w K Q:=by
 obtain ⟨v',w',hrun,h2,h3,h4⟩:=kE w base o.type v L B A n c ss hn hown hr hlen hbase;unfold Oper.wp execOp;simp only [ho,resolve,invoke,builtin,Sem.run_bind,Sem.run_pure,Result.andThen_ok,List.map_toArray,List.map_cons,List.map_nil,hs,hx,hrun];exact h v' w' h2 h3 h4
theorem fC {ops:Array Oper} {rest:List Oper} {o:Oper} {a:Act} {w:World} {Q:Exit→Act→World→Prop} (hgd:o.guard=none) (s x:Operand) (ho:o.op= .call { callee:= .builtin .append,args:=#[s,x],argTypes:=#[31,31] })
  (base:Nat) (v:Value) (L:List ByteArray) (hs:a.eval s=v) (hown:cO w base v L) (B:Nat) (A:Option Addr) (n c:Nat) (ss:List ByteArray) (hx:a.eval x= .slice A n c) (hn:n=ss.length) (hr:cK w B A ss) (hlen:L.length+ss.length≤1000000) (hbase:base≤w.heap.size)
  (h:∀ v' w',cO w' base v' (L ++ ss)→w.grownBy w' v.ownBlock→(v'.ownBlock=v.ownBlock∨v'.ownBlock=some w.heap.size)→wpList Tryz.prog ops Q rest (a.put o.dst v') w'):wpList Tryz.prog ops Q (o :: rest) a w:=
 wpList_plain hgd fun _ hK=>iC s x ho base v L hs hown B A n c ss hx hn hr hlen hbase fun v' w' h2 h3 h4=>hK _ _ (h v' w' h2 h3 h4)
theorem gK {ops:Array Oper} {o:Oper} {a:Act} {w:World} {K:Act→World→Prop} {Q:Exit→Act→World→Prop} {E:Prop} (hgd:o.guard=none) (s x:Operand) (ho:o.op= .call { callee:= .builtin .append,args:=#[s,x],argTypes:=#[31,31] })
  (base:Nat) (v:Value) (L:List ByteArray) (hs:a.eval s=v) (hown:cO w base v L) (B:Nat) (A:Option Addr) (n c:Nat) (ss:List ByteArray) (hx:a.eval x= .slice A n c) (hn:n=ss.length) (hr:cK w B A ss) (hlen:L.length+ss.length≤1000000) (hbase:base≤w.heap.size)
  (h:∀ v' w',cO w' base v' (L ++ ss)→w.grownBy w' v.ownBlock→(v'.ownBlock=v.ownBlock∨v'.ownBlock=some w.heap.size)→K (a.put o.dst v') w'):
  if Region.wanted o (yielded ops a.tmps)=true then Oper.wp Tryz.prog o a w K Q else E:=by
 have hw:Region.wanted o (yielded ops a.tmps)=true:=by simp [Region.wanted,hgd]
 rw [if_pos hw];exact iC s x ho base v L hs hown B A n c ss hx hn hr hlen hbase h
theorem cO.ge {w:World} {base:Nat} {v:Value} {L:List ByteArray} (h:cO w base v L):∀ r,v.ownBlock=some r→base≤r:=fun r hr=>(World.ownsRow.lt h r hr).1
theorem cO.strs {w:World} {base:Nat} {v:Value} {L:List ByteArray} (h:cO w base v L):∃ A c,v= .slice A L.length c∧cK w w.heap.size A L:=by
 rcases Joins.ownsRow_forms h.o with ⟨rfl,h0⟩ | ⟨g,cap,rfl⟩
 · have:L= []:=List.eq_nil_of_length_eq_zero h0;subst this;exact ⟨none,0,rfl,cK.nil⟩
 · refine ⟨_,cap,rfl,fun k hk=>⟨_,rfl,(h.o.lt g rfl).2,?_⟩⟩;exact World.ownsRow.cells h (g:=g) rfl k _ (by rw [List.getElem?_map,List.getElem?_eq_getElem hk];rfl)
theorem vk (w:World) (x:ByteArray) (t:TypeId):cK (w.alloc (.cells #[.string x] t)) (w.heap.size+1) (some ⟨w.heap.size,0,none⟩) [x]:=fun k hk=>by
 have hk:k=0:=by simp at hk;omega
 subst hk;exact ⟨_,rfl,by show w.heap.size < _;omega,by show World.cell? _ ⟨w.heap.size,0,none⟩=_;rw [(Blk.new w #[.string x] t).cell];rfl⟩
theorem cO.lT {w w1 wr w2:World} {v v' :Value} {L L' :List ByteArray} (ho:cO w1 w.heap.size v L) (hb:Below w.heap.size w wr) {o:Obj} (hw:w1=wr.alloc o) (hg:w1.grownBy w2 v.ownBlock) (_h:cO w2 w.heap.size v' L'):Below w.heap.size w w2:=by
 subst hw;have h1:=hb.alloc hb.size o;exact h1.grown hg (by have:=hb.size;simp;omega) (fun r hr=>ho.ge r hr)
theorem oo (D:List ByteArray) (x:ByteArray):(D ++ [x]).filter gD=D.filter gD ++ (if x.size=0 then [] else [x]):=by
 rw [List.filter_append];congr 1;by_cases h:x.size=0
 · simp [gD,h]
 · simp [gD,h]
theorem ou {D:List ByteArray} {x:ByteArray} (h:x.size≠0):(D ++ [x]).filter gD=D.filter gD ++ [x]:=by rw [oo,if_neg h]
theorem ow {D:List ByteArray} {x:ByteArray} (h:x.size=0):(D ++ [x]).filter gD=D.filter gD:=by rw [oo,if_pos h,List.append_nil]
def CK (s:ByteArray) (w:World) (e:Ending) (w' :World):Prop:=∃ (v:Value) (L:List ByteArray) (a b:Bool),e= .returned (.tuple #[v, .bool a, .bool b])∧IsW 47 s L∧cO w' w.heap.size v (L.filter gD)∧Below w.heap.size w w'
theorem xz (D:List ByteArray):(D.filter gD).length≤D.length:=List.length_filter_le _ _
theorem vw (s:ByteArray) (w:World) (hs:s.size≤100000):Calls Tryz.prog 75 #[.string s] w (CK s w):=by
 go_in;go_wp2_with fail;go_loopw [5,6,7] (fun v m i wr=>∃ (D:List ByteArray) (mk ik:Nat),m= .int .i64 (mk:Int)∧i= .int .i64 (ik:Int)∧cO wr w.heap.size v (D.filter gD)∧Below w.heap.size w wr∧Hid ((ik≤s.size∧gX 47 s D mk ik)∨(ik=s.size+1∧IsW 47 s D))∧D.length≤100001∧mk≤s.size+1) (fun _ _ i _=>s.size+2 - (intOf i).toNat);case atStart=>exact ⟨[],0,0,rfl,rfl,cO.nil _ _,Below.refl _ _,Hd (.inl ⟨Nat.zero_le _,gX.start 47 s⟩),by simp,by omega⟩
 case round=>
  obtain ⟨D,mk,ik,rfl,rfl,hown,hb,hst,hD,hm⟩:=hrel;have hfl:=xz D;by_cases hle:ik≤s.size
  · have hc:gX 47 s D mk ik:=by
      rcases hst.o with ⟨_,h⟩ | ⟨h,_⟩
      · exact h
      · omega
    have h1:=hc.le;have h3:=hc.count;have HST:=Hd hc;clear hst hc;by_cases hlt:ik < s.size
    · have n1:((ik:Int) == (s.size:Int))=false:=(by rw [beq_eq_false_iff_ne];omega);by_cases hcc:s[ik]=47
      · have t1:((s[ik].toNat:Int) == 47)=true:=(by rw [hcc];rfl);have HC:=Hd (HST.o.cut hlt hcc);clear hcc;by_cases hem:mk < ik
        · have HF:=Hd (ou (D:=D) (x:=s.extract mk ik) (by rw [ByteArray.size_extract];omega));go_wp2_with (at_builtin;refine fC rfl (.tmp 27) (.tmp 32) rfl w.heap.size _ (D.filter gD) rfl (hown.alloc _) (wr.heap.size+1) (some ⟨wr.heap.size,0,none⟩) 1 1 [s.extract mk ik] rfl rfl (vk wr _ 9) (by simp;omega) (by have:=hb.size;simp;omega) ?_;intro v4 w4 rz hg4 xA);have hb4:=cO.lT (hown.alloc _) hb rfl hg4 rz;clear hg4 xA hb hown;go_wp2_with fail;go_roundw;case rel=>exact ⟨D ++ [s.extract mk ik],ik+1,ik+1,by go_num,by go_num,by rw [HF.o];exact rz,hb4,Hd (.inl ⟨by omega,HC.o⟩),by rw [List.length_append,List.length_singleton];omega,by omega⟩
          case measure=>simp [intOf];omega
        · have HF:=Hd (ow (D:=D) (x:=s.extract mk ik) (by rw [ByteArray.size_extract];omega));go_wp2_with fail;go_roundw;case rel=>exact ⟨D ++ [s.extract mk ik],ik+1,ik+1,by go_num,by go_num,by rw [HF.o];exact hown,hb,Hd (.inl ⟨by omega,HC.o⟩),by rw [List.length_append,List.length_singleton];omega,by omega⟩
          case measure=>simp [intOf];omega
      · have t1:((s[ik].toNat:Int) == 47)=false:=by
          rw [beq_eq_false_iff_ne];intro e;exact hcc (UInt8.toNat_inj.1 (by show s[ik].toNat=47;omega))
        have HC:=Hd (HST.o.next hlt hcc);clear hcc;go_wp2_with fail;go_roundw;case rel=>exact ⟨D,mk,ik+1,rfl,by go_num,hown,hb,Hd (.inl ⟨by omega,HC.o⟩),hD,hm⟩
        case measure=>simp [intOf];omega
    · obtain rfl:ik=s.size:=(by omega);have n1:((s.size:Int) == (s.size:Int))=true:=(by simp);have HC:=Hd HST.o.done;by_cases hem:mk < s.size
      · have HF:=Hd (ou (D:=D) (x:=s.extract mk s.size) (by rw [ByteArray.size_extract];omega));go_wp2_with (at_builtin;refine fC rfl (.tmp 27) (.tmp 32) rfl w.heap.size _ (D.filter gD) rfl (hown.alloc _) (wr.heap.size+1) (some ⟨wr.heap.size,0,none⟩) 1 1 [s.extract mk s.size] rfl rfl (vk wr _ 9) (by simp;omega) (by have:=hb.size;simp;omega) ?_;intro v4 w4 rz hg4 xA);have hb4:=cO.lT (hown.alloc _) hb rfl hg4 rz;clear hg4 xA hb hown;go_wp2_with fail;go_roundw;case rel=>exact ⟨D ++ [s.extract mk s.size],s.size+1,s.size+1,by go_num,by go_num,by rw [HF.o];exact rz,hb4,Hd (.inr ⟨rfl,HC.o⟩),by rw [List.length_append,List.length_singleton];omega,by omega⟩
        case measure=>simp [intOf]
      · have HF:=Hd (ow (D:=D) (x:=s.extract mk s.size) (by rw [ByteArray.size_extract];omega));go_wp2_with fail;go_roundw;case rel=>exact ⟨D ++ [s.extract mk s.size],s.size+1,s.size+1,by go_num,by go_num,by rw [HF.o];exact hown,hb,Hd (.inr ⟨rfl,HC.o⟩),by rw [List.length_append,List.length_singleton];omega,by omega⟩
        case measure=>simp [intOf]
  · have hw:IsW 47 s D:=by
      rcases hst.o with ⟨h,_⟩ | ⟨_,h⟩
      · omega
      · exact h
    have HW:=Hd hw;clear hst hw;go_wp2_with fail;by_cases hz:0 < s.size
    · have d1:decide ((0:Int) < (s.size:Int))=true:=decide_eq_true (by omega);have z0:(0:Int) < (s.size:Int):=(by omega);have z1:(1:Int)≤(s.size:Int):=(by omega);have z2:s.size - 1 < s.size:=(by omega);have c0:(0:Int)≤(s.size:Int) - 1:=(by omega);have c1:(s.size:Int) - 1 < (s.size:Int):=(by omega);have c2:IntKind.i64.wrap ((s.size:Int) - 1)=(s.size:Int) - 1:=IntWalk.i64_in _ (by omega);have c3:((s.size:Int) - 1).toNat=s.size - 1:=(by omega);go_quiet (fail);go_wp2_with fail;refine bodyPost_ret (v:= .tuple #[_, .bool _, .bool _]) (by simp [results,Tryz.results75,go_sem];exact ⟨rfl,rfl,rfl⟩) rfl ?_;exact ⟨_,D,_,_,rfl,HW.o,hown.below (below_drewN (Below.refl _ _) _),below_drewN hb _⟩
    · have d1:decide ((0:Int) < (s.size:Int))=false:=decide_eq_false (by omega);go_quiet (fail);go_wp2_with fail;refine bodyPost_ret (v:= .tuple #[_, .bool _, .bool _]) (by simp [results,Tryz.results75,go_sem];exact ⟨rfl,rfl,rfl⟩) rfl ?_;exact ⟨_,D,_,_,rfl,HW.o,hown.below (below_drewN (Below.refl _ _) _),below_drewN hb _⟩
attribute [local irreducible] fq dM
theorem xK:(Tryz.prog.info? 110).map (·.size)=some 5:=by kernel_rfl
theorem qG (w:World) (g:Nat) (t:TypeId) (cs:Array Value) (tmps:Array Value) (hp:tmps.getD 2 undef= .pointer (some ⟨g,0,none⟩)) (h:Blk w g t cs) (h5:cs.size=5):
  (results Tryz.f49 tmps).run Tryz.prog w= .ok (.agg cs) w:=
 results_cell_row (p:=2) (ty:=110) rfl tmps w g t cs (0,0) _ hp h Tryz.underlying110 rfl (by rw [h5];exact xK)
theorem xL (z:Int) (hz:z < 0) (w:World):Calls Tryz.prog 49 #[.int .i64 z] w fun e w' =>e= .returned (nz.val .i64 ⟨⟨#[]⟩,0,0,0,0⟩)∧Below w.heap.size w w' :=by
 go_in;go_wp2_with fail;refine bodyPost_ret (v:=nz.val .i64 ⟨⟨#[]⟩,0,0,0,0⟩) ?_ rfl ?_
 · simp [results,Tryz.results49,go_sem,nz.val]
 · exact ⟨rfl,(Below.refl _ _).alloc (Nat.le_refl _) _⟩
theorem rF (z:Int) (hz:22≤z) (w:World):Calls Tryz.prog 49 #[.int .i64 z] w fun e w' =>e= .returned (nz.val .i64 ⟨⟨#[]⟩,0,0,0,0⟩)∧Below w.heap.size w w' :=by
 go_in;go_wp2_with fail;refine (yK _).mono ?_;rintro e w1 ⟨rfl,hb⟩;have HG:Blk w1 w.heap.size 110 _:=(Blk.new w _ _).keep (boxed hb) (by omega);have q0:=HG.cell 0;have f0:=HG.free 0;have q1:=HG.cell 1;have f1:=HG.free 1;have q2:=HG.cell 2;have f2:=HG.free 2;have q3:=HG.cell 3;have f3:=HG.free 3;have q4:=HG.cell 4;have f4:=HG.free 4;go_wp2_with fail;refine bodyPost_ret (qG _ _ _ _ _ rfl (((((HG.put 0 _).put 1 _).put 2 _).put 3 _).put 4 _) rfl) rfl ?_;exact ⟨rfl,(((((nD hb).setCell (Nat.le_refl _) _).setCell (Nat.le_refl _) _).setCell (Nat.le_refl _) _).setCell (Nat.le_refl _) _).setCell (Nat.le_refl _) _⟩
theorem Ac (n:Nat) (hn:n < 22) (w:World):Calls Tryz.prog 49 #[.int .i64 (n:Int)] w fun e w' =>e= .returned (nz.val .i64 (fq n))∧Below w.heap.size w w' :=by
 obtain ⟨k0,k1,k2,k3,k4⟩:=vI .i64 n hn;go_in;go_wp2_with fail;refine (yK _).mono ?_;rintro e w1 ⟨rfl,hb⟩;have HH:=Hd (show Blk w1 w.heap.size 110 _ from (Blk.new w _ _).keep (boxed hb) (by omega));have HB:=Hd (nD hb);clear hb;go_wp2_with fail;refine (yJ _).mono ?_;rintro e w2 ⟨rfl,hg,hb2⟩;have HG:=HH.o.below hb2;have HB2:=Hd (HB.o.trans (hb2.mono HB.o.size));have c0:=(hg.cell (n * 5)).trans k0;have c1:=(hg.cell (n * 5+1)).trans k1;have c2:=(hg.cell (n * 5+2)).trans k2;have c3:=(hg.cell (n * 5+3)).trans k3;have c4:=(hg.cell (n * 5+4)).trans k4;have q0:=HG.cell 0;have f0:=HG.free 0;have q1:=HG.cell 1;have f1:=HG.free 1;have q2:=HG.cell 2;have f2:=HG.free 2;have q3:=HG.cell 3;have f3:=HG.free 3;have q4:=HG.cell 4;have f4:=HG.free 4;clear hg k0 k1 k2 k3 k4 HH HB hb2;have HR:=Hd (show nz.val .i64 (fq n)= .agg #[.string (fq n).name, .int .i64 (fq n).nums, .int .i64 (fq n).kL, .int .i64 (fq n).least, .int .i64 (fq n).most] from rfl);go_wp2_with fail;refine bodyPost_ret (qG _ _ _ _ _ rfl (((((HG.put 0 _).put 1 _).put 2 _).put 3 _).put 4 _) rfl) rfl ?_;exact ⟨by rw [HR.o];rfl,(((((HB2.o).setCell (Nat.le_refl _) _).setCell (Nat.le_refl _) _).setCell (Nat.le_refl _) _).setCell (Nat.le_refl _) _).setCell (Nat.le_refl _) _⟩
theorem qH {z:Int} (h:z < 0):eT z=⟨⟨#[]⟩,0,0,0,0⟩:=if_pos h
theorem lZ {z:Int} (h:22≤z):eT z=⟨⟨#[]⟩,0,0,0,0⟩:=by
 unfold eT;rw [if_neg (by omega)];unfold fq;rw [List.getD_eq_getElem?_getD,List.getElem?_eq_none (by show xJ.length≤_;have:xJ.length=22:=rfl;omega)];rfl
theorem mQ (n:Nat):eT (n:Int)=fq n:=by unfold eT;rw [if_neg (by omega),Int.toNat_natCast]
theorem Ib (z:Int) (w:World):Calls Tryz.prog 49 #[.int .i64 z] w fun e w' =>e= .returned (nz.val .i64 (eT z))∧Below w.heap.size w w' :=by
 by_cases h0:z < 0
 · rw [qH h0];exact xL z h0 w
 · by_cases h1:22≤z
   · rw [lZ h1];exact rF z h1 w
   · obtain ⟨n,rfl⟩:=Int.eq_ofNat_of_zero_le (show 0≤z by omega);rw [mQ];exact Ac n (by omega) w
theorem CY (z:Int) (w:World):Calls Tryz.prog 27 #[.int .i64 z] w fun e w' =>e= .returned (.tuple #[.int .i64 (eT z).nums, .int .i64 (eT z).kL, .int .i64 (eT z).least, .int .i64 (eT z).most])∧Below w.heap.size w w' :=by
 have HG:=Hd (Ib z);generalize eT z=r at *;obtain ⟨nm,a,b,c,d⟩:=r;go_in;go_wp2_with fail;refine (HG.o _).mono ?_;rintro e w1 ⟨rfl,hb⟩;unfold nz.val;go_wp2_with fail;go_quiet (fail);go_wp2_with fail;refine bodyPost_ret (oH rfl _ _ _) rfl ?_;exact ⟨rfl,below_drewN (hb.alloc hb.size _) _⟩
end Go.Proofs.YtnpaoepkpdileaaGreatDoor
namespace Go.Proofs.YtnpaoepkpdileaaGreatDoor
open Go.RowKit
attribute [local irreducible] fq dM
theorem jc {z:Int} (h:z < 0∨22≤z):eT z=⟨⟨#[]⟩,0,0,0,0⟩:=h.elim qH lZ
end Go.Proofs.YtnpaoepkpdileaaGreatDoor
namespace Go.Proofs.YtnpaoepkpdileaaGreatDoor
open Go.RowKit
abbrev Ad (z:Int) (a:Nat→Int) (P:Option Addr) (np cp:Nat) (A:Option Addr) (na ca:Nat):Value:=
 .agg #[.int .i64 z, .int .i64 (a 0), .int .i64 (a 1), .int .i64 (a 2), .int .i64 (a 3), .slice P np cp, .slice A na ca]
def oI (m:Nat) (a:Nat→Int):Bool:=(List.range 4).all fun j=>decide (j < m) || a j == 0
theorem xM {m:Nat} {a:Nat→Int} {j:Nat} (h1:m≤j) (h2:j < 4) (h:a j≠0):oI m a=false:=by
 unfold oI;rw [List.all_eq_false];exact ⟨j,by simpa using h2,by simp;exact ⟨h1,h⟩⟩
theorem vJ {m:Nat} {a:Nat→Int} (h:∀ j,m≤j→j < 4→a j=0):oI m a=true:=by
 unfold oI;rw [List.all_eq_true];intro j hj;simp at hj;by_cases hm:j < m
 · simp [hm]
 · simp [h j (by omega) hj]
def mR (z:Int) (a:Nat→Int) (ps gs:List ByteArray):Int:=
 if (eT z).name.size=0 then 100 else if oI (eT z).nums a=false then 101
 else if ps.length≠(eT z).kL∨gs.length < (eT z).least∨(eT z).most < gs.length then 101
 else if jb ps 128=true∨jb gs 64=true then 102 else 0
theorem vK {z:Int} {a:Nat→Int} {ps gs:List ByteArray} {nm:ByteArray} {m p l u:Nat} (h:eT z=⟨nm,m,p,l,u⟩):mR z a ps gs=
 if nm.size=0 then 100 else if oI m a=false then 101 else if ps.length≠p∨gs.length < l∨u < gs.length then 101 else if jb ps 128=true∨jb gs 64=true then 102 else 0:=by unfold mR;rw [h]
theorem CZ {w:World} {g:Nat} {t:TypeId} {z:Int} {a:Nat→Int} {x y:Value} (h:Blk w g t #[.int .i64 z, .int .i64 (a 0), .int .i64 (a 1), .int .i64 (a 2), .int .i64 (a 3),x,y]) (k:Nat) (hk:k < 4):w.cell? ⟨g,1+k,none⟩=some (.int .i64 (a k)):=by
 rw [h.cell]
 match k,hk with
 | 0,_=>rfl
 | 1,_=>rfl
 | 2,_=>rfl
 | 3,_=>rfl
attribute [local irreducible] fq dM eT mR oI jb
end Go.Proofs.YtnpaoepkpdileaaGreatDoor
namespace Go.Proofs.YtnpaoepkpdileaaGreatDoor
open Go.RowKit
theorem l6 {s:ByteArray} (h:s.size=0):s.toList= []:=by
 rw [ByteArray.toList_eq];exact List.eq_nil_of_length_eq_zero (by rw [Array.length_toList];exact h)
theorem jd {s:ByteArray} (h:s.size≠0):s.toList≠ []:=by
 rw [ByteArray.toList_eq];intro e;exact h (by have:=congrArg List.length e;rw [Array.length_toList] at this;exact this)
attribute [local irreducible] fq dM eT mR oI jb
theorem xN (z:Int) (a:Nat→Int) (P:Option Addr) (cp:Nat) (A:Option Addr) (ca:Nat) (ps gs:List ByteArray) (w:World) (B:Nat) (hB:B≤w.heap.size) (hP:cK w B P ps) (hA:cK w B A gs) (hlp:ps.length≤1000) (hlg:gs.length≤1000) (hsp:∀ s∈ps,s.size≤maxLen) (hsg:∀ s∈gs,s.size≤maxLen):
   Calls Tryz.prog 31 #[Ad z a P ps.length cp A gs.length ca] w fun e w' =>e= .returned (.int .i64 (mR z a ps gs))∧Below w.heap.size w w' :=by
 have HP:=Hd hP;have HA:=Hd hA;have HSP:=Hd hsp;have HSG:=Hd hsg;clear hP hA hsp hsg;have HG:=Hd (Ib z);have hsm:(eT z).nums≤2∧(eT z).kL≤2∧(eT z).least≤1∧(eT z).most≤4∧(eT z).name.size≤8:=by
   by_cases hz:z < 0∨22≤z
   · rw [jc hz];decide
   · obtain ⟨n,rfl⟩:=Int.eq_ofNat_of_zero_le (show 0≤z by omega);rw [mQ];exact rD n
 generalize hr:eT z=r at *;have HR:=Hd (vK (a:=a) (ps:=ps) (gs:=gs) hr);clear hr;obtain ⟨nm,m,p,l,u⟩:=r;obtain ⟨s1,s2,s3,s4,_⟩:=hsm;by_cases hnm:nm.size=0
 · have e0:nm.toList.isEmpty=true:=(by rw [l6 hnm];rfl);have e1:=l6 hnm;have HN:=Hd hnm;clear hnm;go_in;go_wp2_with fail;refine (HG.o _).mono ?_;rintro e w1 ⟨rfl,hb⟩;unfold nz.val;go_wp2_with fail;go_ret;exact ⟨by rw [HR.o,if_pos HN.o];rfl,(nD hb).alloc (nD hb).size _⟩
 · have e0:nm.toList.isEmpty=false:=(by simpa using jd hnm);have e1:=jd hnm;go_in;go_wp2_with fail;refine (HG.o _).mono ?_;rintro e w1 ⟨rfl,hb⟩;unfold nz.val;have HG1:=(Blk.new w _ _).keep (boxed hb) (by omega);have HB1:=nD hb;clear hb;go_wp2_with fail;have HG2:=HG1.alloc (.cells #[.string nm, .int .i64 (m:Int), .int .i64 (p:Int), .int .i64 (l:Int), .int .i64 (u:Int)] 110);have HRW:=Blk.new w1 #[.string nm, .int .i64 (m:Int), .int .i64 (p:Int), .int .i64 (l:Int), .int .i64 (u:Int)] 110;have HB:=Hd (HB1.alloc HB1.size (.cells #[.string nm, .int .i64 (m:Int), .int .i64 (p:Int), .int .i64 (l:Int), .int .i64 (u:Int)] 110));clear HG1 HB1;generalize w1.alloc (.cells #[.string nm, .int .i64 (m:Int), .int .i64 (p:Int), .int .i64 (l:Int), .int .i64 (u:Int)] 110)=w2 at *;generalize w1.heap.size=g1 at *;have q5:=HG2.cell 5;have q6:=HG2.cell 6;have HQ:=Hd (fun k hk=>CZ HG2 k hk);have r1:=HRW.cell 1;have r2:=HRW.cell 2;have r3:=HRW.cell 3;have r4:=HRW.cell 4;clear HRW HG2;have HP1:=Hd (HP.o.keep HB.o hB);have HA1:=Hd (HA.o.keep HB.o hB);go_loop [4] (fun i=>∃ k:Nat,m≤k∧k≤4∧i= .int .i64 k∧Hid (∀ j,m≤j→j < k→a j=0)) (fun i=>4 - (intOf i).toNat);case atStart=>exact ⟨m,Nat.le_refl _,by omega,rfl,fun j h1 h2=>by omega⟩
   case round=>
     obtain ⟨k,hk0,hk,rfl,hno⟩:=hrel;by_cases hlt:k < 4
     · have hcell:=HQ.o k (by omega);by_cases ha:a k=0
       · have HN:=Hd (show ∀ j,m≤j→j < k+1→a j=0 from fun j h1 h2=>by
           by_cases e:j=k
           · rw [e];exact ha
           · exact hno.o j h1 (by omega))
         rw [ha] at hcell;clear ha;go_wp2_with fail
         go_round
         case rel=>exact ⟨k+1,by omega,by omega,by go_num,HN.o⟩
         case measure=>simp [intOf];omega
       · have HZ:=Hd (xM (m:=m) (a:=a) (j:=k) (by omega) (by omega) ha);have hab:(a k != 0)=true:=(by simpa using ha);clear ha;generalize a k=v at *;go_wp2_with fail;go_ret;exact ⟨by rw [HR.o,if_neg hnm,if_pos HZ.o];rfl,HB.o⟩
     · have HZ:=Hd (vJ (m:=m) (a:=a) fun j h1 h2=>hno.o j h1 (by omega));clear hno;go_wp2_with fail;(all_goals try (go_ret;exact ⟨by rw [HR.o,if_neg hnm,if_neg (by rw [HZ.o];simp),if_pos (by omega)];rfl,HB.o⟩));have HK:=Hd (show ¬ (ps.length≠p∨gs.length < l∨u < gs.length) by omega);go_loop [5] (fun i=>∃ k:Nat,k≤ps.length∧i= .int .i64 k∧Hid (∀ j (hj:j < ps.length),j < k→ps[j].size≤128)) (fun i=>ps.length - (intOf i).toNat);case atStart=>exact ⟨0,Nat.zero_le _,rfl,fun j _ hj=>by omega⟩
       case round=>
         obtain ⟨k,hk,rfl,hno⟩:=hrel;by_cases hlt:k < ps.length
         · obtain ⟨ad,e,Bh,hc⟩:=HP1.o k hlt;cases e;have hsz:=HSP.o _ (List.getElem_mem hlt);unfold maxLen at hsz;by_cases ho:128 < ps[k].size
           · have HL:=Hd (vg hlt ho);generalize ps[k]=s at *;go_wp2_with fail;go_ret;exact ⟨by rw [HR.o,if_neg hnm,if_neg (by rw [HZ.o];simp),if_neg HK.o,if_pos (.inl HL.o)];rfl,HB.o⟩
           · have HN:=Hd (show ∀ j (hj:j < ps.length),j < k+1→ps[j].size≤128 from fun j hj hjk=>by
               by_cases e:j=k
               · subst e;omega
               · exact hno.o j hj (by omega))
             generalize ps[k]=s at *;go_wp2_with fail
             go_round
             case rel=>exact ⟨k+1,by omega,by go_num,HN.o⟩
             case measure=>simp [intOf];omega
         · have L1:=Hd (qz fun j hj=>hno.o j hj (by omega));clear hno;go_wp2_with fail;go_loop [6] (fun i=>∃ k:Nat,k≤gs.length∧i= .int .i64 k∧Hid (∀ j (hj:j < gs.length),j < k→gs[j].size≤64)) (fun i=>gs.length - (intOf i).toNat);case atStart=>exact ⟨0,Nat.zero_le _,rfl,fun j _ hj=>by omega⟩
           case round=>
             obtain ⟨k,hk,rfl,hno⟩:=hrel;by_cases hlt:k < gs.length
             · obtain ⟨ad,e,Bh,hc⟩:=HA1.o k hlt;cases e;have hsz:=HSG.o _ (List.getElem_mem hlt);unfold maxLen at hsz;by_cases ho:64 < gs[k].size
               · have HL:=Hd (vg hlt ho);generalize gs[k]=s at *;go_wp2_with fail;go_ret;exact ⟨by rw [HR.o,if_neg hnm,if_neg (by rw [HZ.o];simp),if_neg HK.o,if_pos (.inr HL.o)];rfl,HB.o⟩
               · have HN:=Hd (show ∀ j (hj:j < gs.length),j < k+1→gs[j].size≤64 from fun j hj hjk=>by
                  by_cases e:j=k
                  · subst e;omega
                  · exact hno.o j hj (by omega))
                 generalize gs[k]=s at *;go_wp2_with fail
                 go_round
                 case rel=>exact ⟨k+1,by omega,by go_num,HN.o⟩
                 case measure=>simp [intOf];omega
             · have L2:=Hd (qz fun j hj=>hno.o j hj (by omega));clear hno;go_wp2_with fail;go_ret;exact ⟨by rw [HR.o,if_neg hnm,if_neg (by rw [HZ.o];simp),if_neg HK.o,if_neg (by rw [L1.o,L2.o];simp)];rfl,HB.o⟩
end Go.Proofs.YtnpaoepkpdileaaGreatDoor
namespace Go.Proofs.YtnpaoepkpdileaaGreatDoor
open Go.ChangeShapes Go.WideShapes Go.RowKit Go.Joins Go.Deep
theorem chunks {α:Type} {c:Nat} :∀ {L:List (List α)} {cs:List α},cs.length=L.length * c→(∀ i (hi:i < L.length),(cs.drop (i * c)).take c=L[i])→cs=L.flatten
 | [],cs,h,_=>by simp at h;simp [h]
 | x :: L,cs,h,hi=>by
  have h0:=hi 0 (by simp);simp at h0;have hr:cs.drop c=L.flatten:=chunks (c:=c) (by rw [List.length_drop,h,List.length_cons,Nat.add_mul];omega) (fun i hlt=>by
   have:=hi (i+1) (by simp;omega);rw [List.drop_drop,show c+i * c=(i+1) * c by rw [Nat.add_mul];omega];simpa using this)
  rw [List.flatten_cons, ← hr, ← h0,List.take_append_drop]
section
variable {H:Type} {enc:TypeId×Value→H} {P:Program} {w:World} {base:Nat} {sp:Nat→Bool} {held:Bool}
theorem wu {fuel n c:Nat} {t e:TypeId} {cs:List Value} {ds:List (DataW H)} {p:List MemPlace} {L:List (List Value)} (ht:P.underlying t=some (.array n e)) (hce:P.cellsOf e=c) (hct:P.cellsOf t=n * c) (hL:L.length=n)
  (h:DataW.trod enc P w base sp held fuel t cs=some (.agg ds,p))
  (hel:∀ i (hi:i < L.length) m cs' d q,ds[i]? =some d→DataW.trod enc P w base sp held m e cs' =some (d,q)→cs' =L[i]):cs=L.flatten:=by
 obtain ⟨xs,m,_,hx,hl,hlen,hg⟩:=DataW.trod_array ht h;simp only [Prod.mk.injEq] at hx;have hx1:=hx.1;simp at hx1;refine chunks (c:=c) (by rw [hl,hct,hL]) fun i hi=>?_;have:=hg i (by omega);rw [hce] at this;have hxi:xs[i]? =some (xs[i]'(by omega)):=List.getElem?_eq_getElem (by omega);rw [hxi] at this;exact hel i hi m _ _ _ (by rw [hx1,List.getElem?_map,hxi];rfl) this
theorem oO {P:Program} {W:World} {laid:List (String×DataW Unit)} {name:String} {ds:List (DataW Unit)} {g n c:Nat} {t e:TypeId} {L:List (List Value)} {cs:Array Value} (i:Nat)
   (hpl:(laid.all fun x=>x.2.handleName?.isNone)=true) (h:laidMetH P laid W) (hi:laid[i]? =some (name, .agg ds))
   (hg:P.globalNamed name=some g) (hty:(P.globals[g]?).map (·.type)=some t) (ht:P.underlying t=some (.array n e)) (hce:P.cellsOf e=c) (hct:P.cellsOf t=n * c) (hL:L.length=n) (hcs:cs=L.flatten.toArray)
   (hel:∀ (w:World) i (hi:i < L.length) m cs' d q,ds[i]? =some d→DataW.trod (fun _=>()) P w 0 (fun _=>true) false m e cs' =some (d,q)→cs' =L[i]):jT W g cs:=by
 rw [MakeChecks.laidMetH_plain _ _ _ hpl] at h;obtain ⟨ps,hv,_⟩:=h;obtain ⟨g',t',cs',fuel,p,hg',ht',hvar,hd⟩:=oU hv i name _ hi;obtain rfl:=Option.some.inj (hg.symm.trans hg');obtain rfl:=Option.some.inj (hty.symm.trans ht');have hc:=wu ht hce hct hL hd (hel W);unfold World.var? at hvar;rw [hg] at hvar;simp only [Option.bind_some] at hvar;split at hvar
 · rename_i cs2 tt fr he;injection hvar with hvar;subst hvar;refine ⟨tt,fr,by rw [he,hcs, ← hc]⟩
 · cases hvar
end
theorem qP:∀ M:List ByteArray,(M.map fun s=> [Value.string s]).flatten=M.map Value.string
 | []=>rfl
 | x :: M=>by simp [qP M]
theorem oP {P:Program} {W:World} {laid:List (String×DataW Unit)} {name:String} {g n:Nat} {t e:TypeId} {M:List ByteArray} (i:Nat)
  (hpl:(laid.all fun x=>x.2.handleName?.isNone)=true) (h:laidMetH P laid W) (hi:laid[i]? =some (name, .agg (M.map fun s=> .lit (.string s.data.toList))))
  (hg:P.globalNamed name=some g) (hty:(P.globals[g]?).map (·.type)=some t) (ht:P.underlying t=some (.array n e)) (hce:P.cellsOf e=1) (hct:P.cellsOf t=n * 1) (he:P.underlying e=some .string) (hL:M.length=n):jT W g (M.map Value.string).toArray:=
 oO (c:=1) (n:=n) (L:=M.map fun s=> [Value.string s]) i hpl h hi hg hty ht hce hct (by simpa using hL) (by
  rw [qP]) (fun w j hj m cs' d q hd htr=>by
  have hjM:j < M.length:=by simpa using hj
  rw [List.getElem?_map,List.getElem?_eq_getElem hjM] at hd;simp at hd;obtain ⟨s,c0,z0,_⟩:=DataW.trod_string he htr;rw [← hd] at z0;simp at z0;subst c0;have:s=M[j]:=by
   apply ByteArray.ext;exact z0.1.symm
  rw [this];simp)
theorem names_laid {W : World} {laid : List (String × DataW Unit)} (i : Nat) (hpl : (laid.all fun x => x.2.handleName?.isNone) = true) (h : laidMetH Tryz.prog laid W) (hi : laid[i]? = some ("kaudit/field.names", Rows.laid_kaudit_field_names)) : FNames W :=
 oP (M:=qp) (t:=105) (e:=9) (n:=23) i hpl h hi (by kernel_rfl) (by kernel_rfl) Tryz.underlying105 (by kernel_rfl) (by kernel_rfl) Tryz.underlying9 rfl
theorem ops_laid {W : World} {laid : List (String × DataW Unit)} (i : Nat) (hpl : (laid.all fun x => x.2.handleName?.isNone) = true) (h : laidMetH Tryz.prog laid W) (hi : laid[i]? = some ("kaudit/field.operators", Rows.laid_kaudit_field_operators)) : FOps W :=
 oP (M:=opL) (t:=106) (e:=9) (n:=9) i hpl h hi (by kernel_rfl) (by kernel_rfl) Tryz.underlying106 (by kernel_rfl) (by kernel_rfl) Tryz.underlying9 rfl
end Go.Proofs.YtnpaoepkpdileaaGreatDoor
