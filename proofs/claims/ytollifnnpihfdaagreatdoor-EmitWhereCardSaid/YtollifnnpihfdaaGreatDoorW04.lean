import Derived.Test.YtollifnnpihfdaaGreatDoorW03
import Derived.Deep.DeepCutAuto
import Derived.Deep.CutBlock
set_option maxRecDepth 100000
set_option maxHeartbeats 64000000
set_option linter.all false
namespace Go.Proofs.YtollifnnpihfdaaGreatDoor
open Go.RowKit
structure El (α:Type) where
 C:α→List Value
 e:TypeId
 sl:TypeId
 sz:Nat
 bs:Nat
 len:∀ a,(C a).length=sz
 one:∀ a,∀ u∈C a,u.oneCell' =true
 pos:0 < sz
 small:bs≤1000
 hu:Tryz.prog.underlying sl=some (.slice e)
 info:∃ (i0:TypeInfo) (z:Value),Tryz.prog.info? e=some i0∧i0.zero=some z∧i0.size=sz∧i0.bytes=bs∧z.cells.size=sz
section
variable {α:Type} {E:El α} {w w' :World} {B B' base lo:Nat} {A:Option Addr} {v:Value} {L M:List α}
theorem El.flat (E:El α) (L:List α):(L.flatMap E.C).length=L.length * E.sz:=by
 induction L with
 | nil=>simp
 | cons a L ih=>rw [List.flatMap_cons,List.length_append,ih,E.len,List.length_cons,Nat.succ_mul];omega
theorem El.dI (E:El α):∀ (L:List α) (k:Nat) (hk:k < L.length) (j:Nat),j < E.sz→(L.flatMap E.C)[k * E.sz+j]? =(E.C (L[k]'hk))[j]?
 | [],k,hk,_,_=>by simp at hk
 | p :: L,0,_,j,hj=>by
  rw [List.flatMap_cons,List.getElem?_append_left (by rw [E.len];omega)];simp
 | p :: L,k+1,hk,j,hj=>by
  have ih:=E.dI L k (by simp at hk;omega) j hj;have e:(k+1) * E.sz+j=E.sz+(k * E.sz+j):=by rw [Nat.succ_mul];omega
  rw [List.flatMap_cons,e,List.getElem?_append_right (by rw [E.len];omega),E.len,show E.sz+(k * E.sz+j) - E.sz=k * E.sz+j by omega,ih];simp
def AtE (E:El α) (w:World) (B:Nat) (A:Option Addr) (L:List α):Prop:=∀ k (hk:k < L.length),∃ ad:Addr,A=some ad∧ad.block < B∧∀ j,j < E.sz→w.cell? ((ad.add (k * E.sz)).add j)=(E.C (L[k]'hk))[j]?
theorem av (a:Addr) (n:Nat):(a.add n).block=a.block:=by unfold Addr.add;split <;> rfl
theorem AtE.keep (h:AtE E w B A L) (hb:Below B' w w') (hB:B≤B'):AtE E w' B A L:=fun k hk=>by
 obtain ⟨ad,e,hl,hc⟩:=h k hk;exact ⟨ad,e,hl,fun j hj=>(hb.cell (by rw [av,av];omega)).trans (hc j hj)⟩
theorem AtE.more (h:AtE E w B A L) (hB:B≤B'):AtE E w B' A L:=fun k hk=>by
 obtain ⟨ad,e,hl,hc⟩:=h k hk;exact ⟨ad,e,by omega,hc⟩
theorem AtE.below (h:AtE E w w.heap.size A L) (hb:Below w.heap.size w w'):AtE E w' w'.heap.size A L:=(h.keep hb (Nat.le_refl _)).more hb.size
theorem AtE.nil:AtE E w B A []:=fun k hk=>by simp at hk
def ax (E:El α) (w:World) (base:Nat) (v:Value) (L:List α):Prop:=w.ownsRow base E.e E.sz v L.length (L.flatMap E.C)
theorem ax.nil (w:World) (base:Nat):ax E w base (.slice none 0 0) []:=World.ownsRow_nil _ _ _ _
theorem ax.alloc (h:ax E w base v L) (o:Obj):ax E (w.alloc o) base v L:=World.ownsRow.alloc h o
theorem ax.ge (h:ax E w base v L):∀ r,v.ownBlock=some r→base≤r:=fun r hr=>(World.ownsRow.lt h r hr).1
theorem ax.lt (h:ax E w base v L):∀ r,v.ownBlock=some r→r < w.heap.size:=fun r hr=>(World.ownsRow.lt h r hr).2
theorem ax.below (h:ax E w base v L) (hb:Below w.heap.size w w'):ax E w' base v L:=
 World.ownsRow.kept (row:=none) h ⟨hb.os,hb.tape,hb.output,hb.size,fun i hi _=>hb.block i hi⟩ (by
  cases hv:v.ownBlock with
  | none=>exact .inl rfl
  | some k=>exact .inr (by simp))
theorem ax.far (h:ax E w base v L) {row:Option Nat} (hg:w.grownBy w' row) (hne:∀ k,v.ownBlock=some k→row≠some k):ax E w' base v L:=
 World.ownsRow.kept h hg (by
  cases hv:v.ownBlock with
  | none=>exact .inl rfl
  | some k=>right;intro e;exact hne k hv e.symm)
theorem ax.bU (h:ax E w base v L) {g i:Nat} (hne:v.ownBlock≠some g) (u:Value):ax E (w.setCell ⟨g,i,none⟩ u) base v L:=
 h.far (row:=some g) ⟨rfl,rfl,rfl,by simp [World.setCell],fun k _ hk=>Below.heap_setCell _ _ _ _ (fun e=>hk (by rw [e]))⟩ (fun k hk e=>hne (by rw [hk];exact e.symm))
theorem ax.rZ (h:ax E w base v L) {g:Nat} (hne:v.ownBlock≠some g) (cs:Array Value):ax E (w.setRow g cs) base v L:=
 h.far (row:=some g) ⟨rfl,rfl,rfl,by rw [setRow_size];exact Nat.le_refl _,fun i _ hne=>setRow_other _ g i cs (fun e=>hne (by rw [e]))⟩ (fun k hk e=>hne (by rw [hk];exact e.symm))
theorem ax.low (h:ax E w lo v L) (hb:base≤lo):ax E w base v L:=Joins.ownsRow_le h hb
theorem lZ (g a b:Nat):((⟨g,0,none⟩:Addr).add a).add b=⟨g,a+b,none⟩:=by
 unfold Addr.add;split
 · split
   · subst_vars;rfl
   · subst_vars;simp
 · split
   · subst_vars;simp
   · simp
theorem bL (g n:Nat):(⟨g,0,none⟩:Addr).add n=⟨g,n,none⟩:=by
 unfold Addr.add;split
 · subst_vars;rfl
 · simp
theorem ax.at (h:ax E w base v L):∃ A c,v= .slice A L.length c∧AtE E w w.heap.size A L:=by
 rcases Joins.ownsRow_forms h with ⟨rfl,h0⟩ | ⟨g,cap,rfl⟩
 · have:L= []:=List.eq_nil_of_length_eq_zero h0;subst this;exact ⟨none,0,rfl,AtE.nil⟩
 · refine ⟨_,cap,rfl,fun k hk=>⟨_,rfl,(World.ownsRow.lt h g rfl).2,fun j hj=>?_⟩⟩;have hf:=E.dI L k hk j hj;have hs:j < (E.C (L[k]'hk)).length:=(by rw [E.len];exact hj);rw [List.getElem?_eq_getElem hs] at hf ⊢;have hc:=World.ownsRow.cells h (g:=g) rfl (k * E.sz+j) _ hf;rw [bL] at hc;rw [lZ];exact hc
theorem iI (E:El α) (w:World) (base:Nat) (ty:TypeId) (v:Value) (L:List α) (B:Nat) (A:Option Addr) (n c:Nat) (M:List α) (hn:n=M.length) (hown:ax E w base v L) (hr:AtE E w B A M) (hlen:L.length+M.length≤1000000) (hbase:base≤w.heap.size):
   ∃ v' w',(Builtin.append_ #[E.sl,E.sl] ty #[v, .slice A n c]).run Tryz.prog w= .ok v' w' ∧ax E w' base v' (L ++ M)∧w.grownBy w' v.ownBlock∧(v'.ownBlock=v.ownBlock∨v'.ownBlock=some w.heap.size):=by
 subst hn;have h:=hown;obtain ⟨i0,z,hi,hz,hs,hb,hzs⟩:=E.info;rcases A with _ | ad
 · have hM:M= []:=by
     cases M with
     | nil=>rfl
     | cons s r=>obtain ⟨ad,e,_⟩:=hr 0 (by simp);cases e
   subst hM;refine ⟨v,w,?_,by simpa using hown,World.grownBy.refl w _, .inl rfl⟩;rcases h.2 with ⟨rfl,_⟩ | ⟨g,cap,cur,rfl,_,_,hnc,_⟩
   · simp [Builtin.append_,run_underlying E.hu,sizeOf,typeInfo,hi,Builtin.lenOf,Builtin.firstCells]
   · simp [Builtin.append_,run_underlying E.hu,sizeOf,typeInfo,hi,Builtin.lenOf,Builtin.firstCells,hnc,storeCells]
 · obtain ⟨v',w',hrun,h2,h3,_,h5⟩:=run_append_own_at (P:=Tryz.prog) w base E.sl ty E.e i0 z E.sz E.bs E.hu hi hz hs hb hzs E.pos v L.length _ h ad M.length c (M.flatMap E.C) (E.flat M) (fun j u hu=>by
     have hj:j < M.length * E.sz:=(by have:=(List.getElem?_eq_some_iff.1 hu).1;rwa [E.flat] at this);have hk:j / E.sz < M.length:=Nat.div_lt_of_lt_mul (by rw [Nat.mul_comm];exact hj);have e:j=j / E.sz * E.sz+j % E.sz:=(by rw [Nat.mul_comm];exact (Nat.div_add_mod j E.sz).symm);have hm:j % E.sz < E.sz:=Nat.mod_lt _ E.pos;obtain ⟨ad',e',_,hc⟩:=hr (j / E.sz) hk;cases e';have h2:=hc (j % E.sz) hm;rw [Addr.add_add, ← e] at h2;rw [h2];have h3:=E.dI M (j / E.sz) hk (j % E.sz) hm;rw [← e] at h3;rw [← h3];exact hu) (by
     intro u hu;obtain ⟨t,_,ht⟩:=List.mem_flatMap.1 hu;exact E.one t u ht) (by unfold maxLen;omega) (by
      have h1:(L.length+M.length) * E.bs≤1000000 * 1000:=Nat.mul_le_mul hlen E.small;omega) hbase
   refine ⟨v',w',hrun,?_,h3,h5⟩;show w'.ownsRow base E.e E.sz v' (L ++ M).length ((L ++ M).flatMap E.C);rw [List.length_append,List.flatMap_append];exact h2
theorem aJ (E:El α) (w:World) (cs:Array Value) (t:TypeId) (x:α) (h:cs.toList=E.C x) (hB:w.heap.size < B):AtE E (w.alloc (.cells cs t)) B (some ⟨w.heap.size,0,none⟩) [x]:=fun k hk=>by
 have hk0:k=0:=by simpa using hk
 subst hk0;refine ⟨_,rfl,hB,fun j hj=>?_⟩;rw [Nat.zero_mul,lZ,(Blk.new w cs t).cell,Nat.zero_add, ← Array.getElem?_toList,h];rfl
theorem aj (E:El α) {ops:Array Oper} {rest:List Oper} {o:Oper} {a:Act} {Q:Exit→Act→World→Prop} (hgd:o.guard=none) (s x:Operand) (ho:o.op= .call { callee:= .builtin .append,args:=#[s,x],argTypes:=#[E.sl,E.sl] })
  (base:Nat) (v:Value) (L:List α) (hs:a.eval s=v) (hown:ax E w base v L) (B:Nat) (A:Option Addr) (n c:Nat) (M:List α) (hx:a.eval x= .slice A n c) (hn:n=M.length) (hr:AtE E w B A M) (hlen:L.length+M.length≤1000000) (hbase:base≤w.heap.size)
  (h:∀ v' w',ax E w' base v' (L ++ M)→w.grownBy w' v.ownBlock→(v'.ownBlock=v.ownBlock∨v'.ownBlock=some w.heap.size)→wpList Tryz.prog ops Q rest (a.put o.dst v') w'):wpList Tryz.prog ops Q (o :: rest) a w:=
 wpList_plain hgd fun K hK=>by
  obtain ⟨v',w',hrun,h2,h3,h4⟩:=iI E w base o.type v L B A n c M hn hown hr hlen hbase;unfold Oper.wp execOp;simp only [ho,resolve,invoke,builtin,Sem.run_bind,Sem.run_pure,Result.andThen_ok,List.map_toArray,List.map_cons,List.map_nil,hs,hx,hrun];exact hK _ _ (h v' w' h2 h3 h4)
theorem aP (E:El α) {ops:Array Oper} {o:Oper} {a:Act} {K:Act→World→Prop} {Q:Exit→Act→World→Prop} {F:Prop} (hgd:o.guard=none) (s x:Operand) (ho:o.op= .call { callee:= .builtin .append,args:=#[s,x],argTypes:=#[E.sl,E.sl] })
  (base:Nat) (v:Value) (L:List α) (hs:a.eval s=v) (hown:ax E w base v L) (B:Nat) (A:Option Addr) (n c:Nat) (M:List α) (hx:a.eval x= .slice A n c) (hn:n=M.length) (hr:AtE E w B A M) (hlen:L.length+M.length≤1000000) (hbase:base≤w.heap.size)
  (h:∀ v' w',ax E w' base v' (L ++ M)→w.grownBy w' v.ownBlock→(v'.ownBlock=v.ownBlock∨v'.ownBlock=some w.heap.size)→K (a.put o.dst v') w'):
  if Region.wanted o (yielded ops a.tmps)=true then Oper.wp Tryz.prog o a w K Q else F:=by
 have hw:Region.wanted o (yielded ops a.tmps)=true:=by simp [Region.wanted,hgd]
 rw [if_pos hw];obtain ⟨v',w',hrun,h2,h3,h4⟩:=iI E w base o.type v L B A n c M hn hown hr hlen hbase;unfold Oper.wp execOp;simp only [ho,resolve,invoke,builtin,Sem.run_bind,Sem.run_pure,Result.andThen_ok,List.map_toArray,List.map_cons,List.map_nil,hs,hx,hrun];exact h v' w' h2 h3 h4
end
structure En where
 nm:ByteArray
 ino:Int
structure Nd where
 ino:Int
 kind:Int
 mode:Int
 uid:Int
 gid:Int
 par:Int
 tg:ByteArray
 es:List En
structure Dv where
 nx:Int
 ns:List Nd
structure Nm where
 nd:Nd
 A:Option Addr
 c:Nat
structure Dm where
 nx:Int
 xs:List Nm
 A:Option Addr
 c:Nat
abbrev Nm.sl (x:Nm):Value:= .slice x.A x.nd.es.length x.c
abbrev Dm.sl (d:Dm):Value:= .slice d.A d.xs.length d.c
def Dm.dv (d:Dm):Dv:=⟨d.nx,d.xs.map (·.nd)⟩
abbrev ndC (n:Nd) (v:Value):Array Value:=#[.int .i64 n.ino, .int .i64 n.kind, .int .i64 n.mode, .int .i64 n.uid, .int .i64 n.gid, .int .i64 n.par, .string n.tg,v]
abbrev dvC (nx:Int) (v:Value):Array Value:=#[.int .i64 nx,v]
def zNd:Nd:=⟨0,0,0,0,0,0,⟨#[]⟩, []⟩
theorem Tryz.Df:(Tryz.prog.info? 209).map (fun i=>(i.zero,i.size,i.bytes))=some (some (.agg #[.string ⟨#[]⟩, .int .i64 0]),2,24):=by kernel_rfl
theorem Tryz.Dg:(Tryz.prog.info? 145).map (fun i=>(i.zero,i.size,i.bytes))=some (some (.agg (ndC zNd (.slice none 0 0))),8,88):=by kernel_rfl
theorem Tryz.Dh:(Tryz.prog.info? 142).map (fun i=>(i.zero,i.size,i.bytes))=some (some (.agg (dvC 0 (.slice none 0 0))),2,32):=by kernel_rfl
def EEn:El En where
 C x:= [.string x.nm, .int .i64 x.ino]
 e:=209
 sl:=143
 sz:=2
 bs:=24
 len _:=rfl
 one x u hu:=by simp at hu;rcases hu with rfl | rfl <;> rfl
 pos:=by omega
 small:=by omega
 hu:=Tryz.underlying143
 info:=by
  obtain ⟨i0,h1,h2,h3,h4⟩:=info_parts Tryz.Df;exact ⟨i0,_,h1,h2,h3,h4,rfl⟩
def ENd:El Nm where
 C x:= [.int .i64 x.nd.ino, .int .i64 x.nd.kind, .int .i64 x.nd.mode, .int .i64 x.nd.uid, .int .i64 x.nd.gid, .int .i64 x.nd.par, .string x.nd.tg, .slice x.A x.nd.es.length x.c]
 e:=145
 sl:=140
 sz:=8
 bs:=88
 len _:=rfl
 one x u hu:=by simp at hu;rcases hu with rfl | rfl | rfl | rfl | rfl | rfl | rfl | rfl <;> rfl
 pos:=by omega
 small:=by omega
 hu:=Tryz.underlying140
 info:=by
  obtain ⟨i0,h1,h2,h3,h4⟩:=info_parts Tryz.Dg;exact ⟨i0,_,h1,h2,h3,h4,rfl⟩
def EDv:El Dm where
 C d:= [.int .i64 d.nx, .slice d.A d.xs.length d.c]
 e:=142
 sl:=26
 sz:=2
 bs:=32
 len _:=rfl
 one x u hu:=by simp at hu;rcases hu with rfl | rfl <;> rfl
 pos:=by omega
 small:=by omega
 hu:=Tryz.underlying26
 info:=by
  obtain ⟨i0,h1,h2,h3,h4⟩:=info_parts Tryz.Dh;exact ⟨i0,_,h1,h2,h3,h4,rfl⟩
def iJ (n:Nd):Prop:=n.es.length≤1000∧n.tg.size≤1000∧∀ x∈n.es,x.nm.size≤1000
structure bV (w:World) (B:Nat) (A:Option Addr) (ds:List Dm):Prop where
 at_:AtE EDv w B A ds
 few:ds.length≤1000
 nodes:∀ d∈ds,AtE ENd w B d.A d.xs∧d.xs.length≤1000
 bW:∀ d∈ds,∀ x∈d.xs,AtE EEn w B x.A x.nd.es∧iJ x.nd
section
variable {w w' :World} {B B' :Nat} {A:Option Addr} {ds:List Dm}
theorem bV.keep (h:bV w B A ds) (hb:Below B' w w') (hB:B≤B'):bV w' B A ds:=
 ⟨h.at_.keep hb hB,h.few,fun d hd=>⟨(h.nodes d hd).1.keep hb hB,(h.nodes d hd).2⟩,fun d hd x hx=>⟨(h.bW d hd x hx).1.keep hb hB,(h.bW d hd x hx).2⟩⟩
theorem bV.more (h:bV w B A ds) (hB:B≤B'):bV w B' A ds:=
 ⟨h.at_.more hB,h.few,fun d hd=>⟨(h.nodes d hd).1.more hB,(h.nodes d hd).2⟩,fun d hd x hx=>⟨(h.bW d hd x hx).1.more hB,(h.bW d hd x hx).2⟩⟩
theorem bV.below (h:bV w w.heap.size A ds) (hb:Below w.heap.size w w'):bV w' w'.heap.size A ds:=(h.keep hb (Nat.le_refl _)).more hb.size
end
def eQ (f:List Dv) (dev:Int):Option Dv:=if dev < 0 then none else f[dev.toNat]?
def iK (l:List Nd) (ino:Int):Option Nat:=l.findIdx? (fun n=>n.ino == ino)
def eT (f:List Dv) (dev ino:Int):Option Nat:=(eQ f dev).bind fun d=>iK d.ns ino
def aF (f:List Dv) (dev ino:Int):Option Nd:=(eQ f dev).bind fun d=>d.ns.find? (fun n=>n.ino == ino)
def bI (f:List Dv) (dev ino:Int):Bool:=match aF f dev ino with | some n=>n.kind == 2 | none=>false
def Di:Option Nat→Int | some i=>i | none=> -1
theorem fJ {w:World} {a:Addr} {x:En} (h:∀ j,j < 2→w.cell? (a.add j)=(EEn.C x)[j]?):w.cell? a=some (.string x.nm)∧w.cell? ⟨a.block,a.off+1,none⟩=some (.int .i64 x.ino):=⟨h 0 (by omega),h 1 (by omega)⟩
theorem bK {w:World} {a:Addr} {d:Dm} (h:∀ j,j < 2→w.cell? (a.add j)=(EDv.C d)[j]?):w.cell? a=some (.int .i64 d.nx)∧w.cell? ⟨a.block,a.off+1,none⟩=some (.slice d.A d.xs.length d.c):=⟨h 0 (by omega),h 1 (by omega)⟩
theorem cK {w:World} {a:Addr} {x:Nm} (h:∀ j,j < 8→w.cell? (a.add j)=(ENd.C x)[j]?):
  w.cell? a=some (.int .i64 x.nd.ino)∧w.cell? ⟨a.block,a.off+1,none⟩=some (.int .i64 x.nd.kind)∧w.cell? ⟨a.block,a.off+2,none⟩=some (.int .i64 x.nd.mode)∧w.cell? ⟨a.block,a.off+3,none⟩=some (.int .i64 x.nd.uid)∧w.cell? ⟨a.block,a.off+4,none⟩=some (.int .i64 x.nd.gid)∧w.cell? ⟨a.block,a.off+5,none⟩=some (.int .i64 x.nd.par)∧w.cell? ⟨a.block,a.off+6,none⟩=some (.string x.nd.tg)∧w.cell? ⟨a.block,a.off+7,none⟩=some (.slice x.A x.nd.es.length x.c):=
 ⟨h 0 (by omega),h 1 (by omega),h 2 (by omega),h 3 (by omega),h 4 (by omega),h 5 (by omega),h 6 (by omega),h 7 (by omega)⟩
theorem iL {ds:List Dm} {dev:Int} (h:dev < 0∨(ds.length:Int)≤dev):eQ (ds.map Dm.dv) dev=none:=by
 unfold eQ;split
 · rfl
 · rw [List.getElem?_eq_none];simp;omega
theorem dC {ds:List Dm} {dev:Int} (h0:0≤dev) (h1:dev.toNat < ds.length):eQ (ds.map Dm.dv) dev=some (ds[dev.toNat].dv):=by
 unfold eQ;rw [if_neg (by omega),List.getElem?_map,List.getElem?_eq_getElem h1];rfl
theorem r9 {l:List Nd} {ino:Int} (h:∀ k (hk:k < l.length),(l[k].ino == ino)=false):iK l ino=none:=by
 unfold iK;rw [List.findIdx?_eq_none_iff];intro x hx;obtain ⟨k,hk,rfl⟩:=List.getElem_of_mem hx;exact h k hk
theorem si {l:List Nd} {ino:Int} {k:Nat} (hk:k < l.length) (h:∀ j (hj:j < k),(l[j].ino == ino)=false) (he:(l[k].ino == ino)=true):iK l ino=some k:=by
 unfold iK;rw [List.findIdx?_eq_some_iff_getElem];exact ⟨hk,he,fun j hj=>by rw [h j hj];decide⟩
theorem wT {l:List Nd} {ino:Int} {k:Nat} (h:iK l ino=some k):∃ hk:k < l.length,l.find? (fun n=>n.ino == ino)=some l[k]:=by
 unfold iK at h;obtain ⟨hk,he,hn⟩:=List.findIdx?_eq_some_iff_getElem.1 h;refine ⟨hk,?_⟩;rw [List.find?_eq_some_iff_getElem];exact ⟨he,k,hk,rfl,fun j hj=>by have:=hn j hj;simpa using this⟩
theorem wU {l:List Nd} {ino:Int} (h:iK l ino=none):l.find? (fun n=>n.ino == ino)=none:=by
 unfold iK at h;rw [List.findIdx?_eq_none_iff] at h;rw [List.find?_eq_none];intro x hx;rw [h x hx];decide
theorem bz {q n:Nat} (h:q≤n) (h9:n≤1000000):wrap64 ((q:Int)+1)=(q:Int)+1∧IntKind.i64.wrap ((q:Int)+1)=(q:Int)+1:=⟨IntWalk.wrap64_in _ (by omega),IntWalk.i64_in _ (by omega)⟩
abbrev fsV (A:Option Addr) (n c:Nat):Value:= .agg #[.slice A n c]
abbrev flV (dev ino:Int):Value:= .agg #[.int .i64 dev, .int .i64 ino]
theorem jX (dev ino:Int) (ds:List Dm) (A:Option Addr) (n c:Nat) (hn:n=ds.length) (w:World) (h:bV w w.heap.size A ds):
   Calls Tryz.prog 117 #[fsV A n c,flV dev ino] w fun e w' =>e= .returned (.int .i64 (Di (eT (ds.map Dm.dv) dev ino)))∧Below w.heap.size w w' :=by
 have HN:=Hd hn;have HB:=Hd (show Below w.heap.size w ((w.alloc (.cells #[.slice A n c] 28)).alloc (.cells #[.int .i64 dev, .int .i64 ino] 44)) from ((Below.refl w.heap.size w).alloc (Nat.le_refl _) _).alloc (by simp) _);have HF:=Hd (h.below HB.o);have HW:=Hd h.few;clear h hn;by_cases h0:dev < 0
 · have HR:=Hd (show eT (ds.map Dm.dv) dev ino=none by unfold eT;rw [iL (.inl h0)];rfl);go_in;go_wp2_with fail;go_ret;exact ⟨by rw [HR.o];rfl,HB.o⟩
 have h0' :¬ dev < 0:=h0;by_cases h1:(n:Int)≤dev
 · have HR:=Hd (show eT (ds.map Dm.dv) dev ino=none by unfold eT;rw [iL (.inr (by rw [← HN.o];exact h1))];rfl);go_in;go_wp2_with fail;go_ret;exact ⟨by rw [HR.o];rfl,HB.o⟩
 obtain ⟨k,rfl⟩:∃ k:Nat,dev=k:=⟨dev.toNat,by omega⟩;have hk:k < ds.length:=by rw [← HN.o];omega
 have k1:(k:Int) < (n:Int):=by omega
 have k2:(0:Int)≤(k:Int):=by omega
 have HI:=Hd (show eT (ds.map Dm.dv) (k:Int) ino=iK (ds[k].xs.map (·.nd)) ino by
   unfold eT;rw [dC (by omega) (by rw [Int.toNat_natCast];exact hk)];rfl)
 have HD:=Hd (HF.o.nodes ds[k] (List.getElem_mem hk));obtain ⟨ad,rfl,hab,hcx⟩:=HF.o.at_ k hk;obtain ⟨s0,s1⟩:=bK (a:=ad.add (k * 2)) hcx;clear hcx h0 h1;generalize ds[k]=d at *;go_in;go_wp2_with fail;generalize hW:(w.alloc (.cells #[.slice (some ad) n c] 28)).alloc (.cells #[.int .i64 (k:Int), .int .i64 ino] 44)=W at *;have q1:W.cell? ⟨w.heap.size+1,1,none⟩=some (.int .i64 ino):=by
   rw [← hW];have:=(Blk.new (w.alloc (.cells #[.slice (some ad) n c] 28)) #[.int .i64 (k:Int), .int .i64 ino] 44).cell 1;simpa using this
 clear hW s0 s1;go_loopw [6] (fun i wr=>∃ j t:Nat,j≤d.xs.length∧i= .int .i64 j∧wr=W.drewN t∧∀ q (hq:q < j) (hl:q < d.xs.length),(d.xs[q].nd.ino == ino)=false) (fun i _=>d.xs.length - (intOf i).toNat);case atStart=>exact ⟨0,0,Nat.zero_le _,rfl,rfl,fun q hq=>by omega⟩
 case round=>
   obtain ⟨j,t,hj,rfl,rfl,hno⟩:=hrel;have HNO:=Hd hno;clear hno;by_cases hlt:j < d.xs.length
   · have j1:(j:Int) < (d.xs.length:Int):=(by omega);have j2:(0:Int)≤(j:Int):=(by omega);have j3:=HD.o.2;have w1:wrap64 ((j:Int)+1)=(j:Int)+1:=IntWalk.wrap64_in _ (by omega);have w2:IntKind.i64.wrap ((j:Int)+1)=(j:Int)+1:=IntWalk.i64_in _ (by omega);obtain ⟨bd,hbd,hbb,hcy⟩:=HD.o.1 j hlt;obtain ⟨t0,t1⟩:=cK (a:=bd.add (j * 8)) hcy;have HX:=Hd (fun h:(d.xs[j].nd.ino == ino)=true=>si (l:=d.xs.map (·.nd)) (ino:=ino) (k:=j) (by simpa using hlt) (fun q hq=>by simpa using HNO.o q hq (by omega)) (by simpa using h));have HY:=Hd (fun h:(d.xs[j].nd.ino == ino)=false=>show ∀ q (hq:q < j+1) (hl:q < d.xs.length),(d.xs[q].nd.ino == ino)=false from fun q hq hl=>by
      by_cases he:q=j
      · subst he;exact h
      · exact HNO.o q (by omega) hl)
     clear hcy t1 HNO;generalize d.xs[j]=x at *;rw [hbd];cases hb:(x.nd.ino == ino) with
     | true=>
      have HR:=Hd (HX.o hb);go_upto_region 7 with fail;go_quiet (fail);go_wp2_with fail;go_ret;exact ⟨by rw [HI.o,HR.o];rfl,below_drewN (below_drewN HB.o _) _⟩
     | false=>
      have HR:=Hd (HY.o hb);go_upto_region 7 with fail;go_quiet (fail);go_wp2_with fail;go_roundw;case rel=>exact ⟨j+1,_,by omega,by go_num,rfl,HR.o⟩
      case measure=>simp [intOf];omega
   · have j1:¬ (j:Int) < (d.xs.length:Int):=(by omega);have HR:=Hd (show iK (d.xs.map (·.nd)) ino=none from r9 (fun q hq=>by simpa using HNO.o q (by simp at hq;omega) (by simpa using hq)));go_wp2_with fail;go_ret;exact ⟨by rw [HI.o,HR.o];rfl,below_drewN HB.o _⟩
structure Pr where
 nm:ByteArray
 kd:Int
 nu:Int
 tx:ByteArray
structure Rc where
 ty:Int
 ti:Int
 se:Int
 ps:List Pr
abbrev prV (p:Pr):Value:=IY p.nm p.kd p.nu p.tx
abbrev rcC (r:Rc) (v:Value):Array Value:=#[.int .i64 r.ty, .int .i64 r.ti, .int .i64 r.se,v]
abbrev rcV (r:Rc) (v:Value):Value:= .agg (rcC r v)
theorem Tryz.Em:(Tryz.prog.info? 79).map (fun i=>(i.zero,i.size,i.bytes))=some (some (.agg #[.string ⟨#[]⟩, .int .i64 0, .int .i64 0, .string ⟨#[]⟩]),4,48):=by kernel_rfl
theorem Tryz.Eo:(Tryz.prog.info? 77).map (fun i=>(i.zero,i.size,i.bytes))=some (some (.agg #[.int .i64 0, .int .i64 0, .int .i64 0, .slice none 0 0]),4,48):=by kernel_rfl
def EP:El Pr where
 C p:= [.string p.nm, .int .i64 p.kd, .int .i64 p.nu, .string p.tx]
 e:=79
 sl:=75
 sz:=4
 bs:=48
 len _:=rfl
 one p u hu:=by simp at hu;rcases hu with rfl | rfl | rfl | rfl <;> rfl
 pos:=by omega
 small:=by omega
 hu:=Tryz.underlying75
 info:=by
  obtain ⟨i0,h1,h2,h3,h4⟩:=info_parts Tryz.Em;exact ⟨i0,_,h1,h2,h3,h4,rfl⟩
structure Rm where
 r:Rc
 A:Option Addr
 c:Nat
abbrev Rm.sl (x:Rm):Value:= .slice x.A x.r.ps.length x.c
def ER:El Rm where
 C x:= [.int .i64 x.r.ty, .int .i64 x.r.ti, .int .i64 x.r.se, .slice x.A x.r.ps.length x.c]
 e:=77
 sl:=65
 sz:=4
 bs:=48
 len _:=rfl
 one x u hu:=by simp at hu;rcases hu with rfl | rfl | rfl | rfl <;> rfl
 pos:=by omega
 small:=by omega
 hu:=Tryz.underlying65
 info:=by
  obtain ⟨i0,h1,h2,h3,h4⟩:=info_parts Tryz.Eo;exact ⟨i0,_,h1,h2,h3,h4,rfl⟩
theorem xE {w:World} {a:Addr} {p:Pr} (h:∀ j,j < 4→w.cell? (a.add j)=(EP.C p)[j]?):
  w.cell? a=some (.string p.nm)∧w.cell? ⟨a.block,a.off+1,none⟩=some (.int .i64 p.kd)∧w.cell? ⟨a.block,a.off+2,none⟩=some (.int .i64 p.nu)∧w.cell? ⟨a.block,a.off+3,none⟩=some (.string p.tx):=
 ⟨h 0 (by omega),h 1 (by omega),h 2 (by omega),h 3 (by omega)⟩
theorem ql {w:World} {a:Addr} {x:Rm} (h:∀ j,j < 4→w.cell? (a.add j)=(ER.C x)[j]?):
  w.cell? a=some (.int .i64 x.r.ty)∧w.cell? ⟨a.block,a.off+1,none⟩=some (.int .i64 x.r.ti)∧w.cell? ⟨a.block,a.off+2,none⟩=some (.int .i64 x.r.se)∧w.cell? ⟨a.block,a.off+3,none⟩=some (.slice x.A x.r.ps.length x.c):=
 ⟨h 0 (by omega),h 1 (by omega),h 2 (by omega),h 3 (by omega)⟩
theorem um (w:World):ax EP (w.alloc (.cells #[] 79)) w.heap.size (.slice (some ⟨w.heap.size,0,none⟩) 0 0) []:=
 ⟨rfl, .inr ⟨w.heap.size,0,#[],rfl,Nat.le_refl _,heap_alloc_new w _,Nat.le_refl _,by unfold maxLen;omega,rfl,rfl⟩⟩
theorem Ep (ad:Addr) (n c:Nat) (w:World):(binOp .eql 75 (.slice (some ad) n c) (.slice none 0 0)).run Tryz.prog w= .ok (.bool false) w:=by show _=_;kernel_rfl
theorem Bd (n c:Nat) (w:World):(binOp .eql 75 (.slice none n c) (.slice none 0 0)).run Tryz.prog w= .ok (.bool true) w:=by show _=_;kernel_rfl
def uo (n:Nat) (ps:List Pr) (w:World) (e:Ending) (w' :World):Prop:=∃ (A:Option Addr) (c:Nat),e= .returned (.slice A n c)∧ax EP w' w.heap.size (.slice A n c) ps∧Below w.heap.size w w'
theorem uw {w w' :World} {o:Obj} (h:(w.alloc o).grownBy w' (Value.slice (some ⟨w.heap.size,0,none⟩) 0 0).ownBlock):Below w.heap.size w w' :=
 ((Below.refl w.heap.size w).alloc (Nat.le_refl _) o).trans ⟨h.os,h.tape,h.output,h.size,fun i hi=>h.block i (by simp;omega) (fun e=>by injection e with e;simp at e;omega)⟩
theorem zt (A:Option Addr) (n c:Nat) (ps:List Pr) (hn:n=ps.length) (hl:n≤1000) (w:World) (h:AtE EP w w.heap.size A ps):
   Calls Tryz.prog 66 #[.slice A n c] w (uo n ps w):=by
 subst hn;rcases A with _ | ad
 · have hM:ps= []:=by
    cases ps with
    | nil=>rfl
    | cons s r=>obtain ⟨ad,e,_⟩:=h 0 (by simp);cases e
   subst hM;clear h hl;have hq:=Bd 0 c;go_in;go_wp2_with fail;go_ret;exact ⟨none,0,rfl,ax.nil _ _,Below.refl _ _⟩
 · have HB:=Hd (show Below w.heap.size w (w.alloc (.cells #[] 79)) from (Below.refl _ _).alloc (Nat.le_refl _) _);have HA:=Hd (h.below HB.o);clear h;have hq:=Ep ad ps.length c;go_in;go_wp2_with (refine aj EP rfl (.tmp 5) (.tmp 6) rfl w.heap.size (.slice (some ⟨w.heap.size,0,none⟩) 0 0) [] rfl (um w) _ (some ad) ps.length c ps rfl rfl HA.o (by simp;omega) (by simp) ?_;intro v6 w6 ho6 hg6 ja);obtain ⟨A',c',e6,_⟩:=ax.at (show ax EP w6 w.heap.size v6 ps from ho6);subst e6;go_ret;exact ⟨A',c',rfl,ho6,uw hg6⟩
abbrev prA (p:Pr):Array Value:=#[.string p.nm, .int .i64 p.kd, .int .i64 p.nu, .string p.tx]
theorem Er (p:Pr):(prA p).all (·.oneCell')=true:=by simp [Value.oneCell']
theorem I1 (p:Pr):(Tryz.prog.info? 79).map (·.size)=some (prA p).size:=by show _=some 4;kernel_rfl
theorem kg {fn:Func} (h:fn.results=#[.cell 4 79]) (tmps:Array Value) (w:World) (g:Nat) (p:Pr) (hp:tmps.getD 4 undef= .pointer (some ⟨g,0,none⟩)) (hg:Blk w g 79 (prA p)):
  (results fn tmps).run Tryz.prog w= .ok (prV p) w:=
 results_cell_row h tmps w g _ (prA p) (0,0) _ hp hg Tryz.underlying79 rfl (by show _=some 4;kernel_rfl)
theorem dz (s:ByteArray) (n:Int) (w:World):Calls Tryz.prog 48 #[.string s, .int .i64 n] w fun e w' =>e= .returned (prV ⟨s,1,n,⟨#[]⟩⟩)∧Below w.heap.size w w' :=by
 go_in;go_wp2_with fail;refine bodyPost_ret (kg (fn:=Tryz.f48) rfl _ _ w.heap.size ⟨s,1,n,⟨#[]⟩⟩ rfl (Blk.new w _ _)) rfl ?_;exact ⟨rfl,(Below.refl _ _).alloc (Nat.le_refl _) _⟩
theorem Es (s t:ByteArray) (ht:t.size≤640) (w:World):Calls Tryz.prog 47 #[.string s, .string t] w fun e w' =>e= .returned (prV ⟨s,2,0,t⟩)∧Below w.heap.size w w' :=by
 have h1:¬ (640:Int) < (t.size:Int):=by omega
 go_in;go_wp2_with fail;refine bodyPost_ret (kg (fn:=Tryz.f47) rfl _ _ w.heap.size ⟨s,2,0,t⟩ rfl (Blk.new w _ _)) rfl ?_;exact ⟨rfl,(Below.refl _ _).alloc (Nat.le_refl _) _⟩
theorem Et (s:ByteArray) (w:World):Calls Tryz.prog 50 #[.string s, .string ⟨#[]⟩] w fun e w' =>e= .returned (prV ⟨s,3,0,⟨#[]⟩⟩)∧Below w.heap.size w w' :=by
 go_in;go_wp2_with fail;refine bodyPost_ret (kg (fn:=Tryz.f50) rfl _ _ w.heap.size ⟨s,3,0,⟨#[]⟩⟩ rfl (Blk.new w _ _)) rfl ?_;exact ⟨rfl,(Below.refl _ _).alloc (Nat.le_refl _) _⟩
theorem qm {P:Program} {w:World} {a:Addr} {ty:TypeId} {cs:Array Value} {d:TypeDesc} (h:∀ j v,cs.toList[j]? =some v→w.cell? (a.add j)=some v)
  (hu:P.underlying ty=some d) (hd:(match d with | .struct _ | .array _ _=>true | _=>false)=true) (hi:(P.info? ty).map (·.size)=some cs.size):
  (loadVar ty a).run P w= .ok (.agg cs) w:=by
 have hl:(loadCells a cs.toList.length).run P w= .ok cs.toList.toArray w:=run_loadCells_list (P:=P) w a cs.toList h;cases hq:P.info? ty with
 | none=>simp [hq] at hi
 | some i=>
  have hs:i.size=cs.size:=by simpa [hq] using hi
  have hagg:(isAgg ty).run P w= .ok true w:=by
   unfold isAgg;rw [Sem.run_bind,run_underlying hu w];cases d <;> simp_all
  simp only [Array.length_toList,Array.toArray_toList] at hl;simp [loadVar,Sem.run_bind,hagg,sizeOf,typeInfo,hq,hs,hl]
theorem lv3 (a:Addr) (w:World):(loadVar 3 a).run Tryz.prog w=(load a).run Tryz.prog w:=by
 unfold loadVar;simp [go_sem]
theorem CX (a:Addr) (w:World):(loadVar 65 a).run Tryz.prog w=(load a).run Tryz.prog w:=by
 unfold loadVar;simp [go_sem]
theorem CY (a:Addr) (w:World):(loadVar 38 a).run Tryz.prog w=(load a).run Tryz.prog w:=by
 unfold loadVar;simp [go_sem]
theorem Ha (g o j:Nat):(⟨g,o,none⟩:Addr).add j=⟨g,o+j,none⟩:=by
 unfold Addr.add;split
 · subst_vars;rfl
 · rfl
attribute [-go_sem] loadVar
attribute [local go_sem] lv3 CX CY
end Go.Proofs.YtollifnnpihfdaaGreatDoor
namespace Go.Proofs.YtollifnnpihfdaaGreatDoor
open Go.RowKit
def nuP (s:ByteArray) (n:Int):Pr:=⟨s,1,n,⟨#[]⟩⟩
def txP (s t:ByteArray):Pr:=if 640 < t.size then ⟨s,3,0,⟨#[]⟩⟩ else ⟨s,2,0,t⟩
def soP (s t:ByteArray):Pr:=if t.size=0 then ⟨s,3,0,⟨#[]⟩⟩ else txP s t
theorem yo {s t:ByteArray} (h:640 < t.size):txP s t=⟨s,3,0,⟨#[]⟩⟩:=if_pos h
theorem oK {s t:ByteArray} (h:¬ 640 < t.size):txP s t=⟨s,2,0,t⟩:=if_neg h
theorem mY {t:ByteArray} (h:¬ t.size=0):t.toList.isEmpty=false:=by
 cases hq:t.toList.isEmpty with
 | false=>rfl
 | true=>
  have e:=congrArg List.length (List.isEmpty_iff.1 hq);rw [ByteArray.toList_eq,Array.length_toList] at e;exact absurd e h
theorem JF (s:ByteArray) (n:Int) (w:World):Calls Tryz.prog 48 #[.string s, .int .i64 n] w fun e w' =>e= .returned (prV (nuP s n))∧Below w.heap.size w w' :=dz s n w
theorem iX (s t:ByteArray) (w:World):Calls Tryz.prog 47 #[.string s, .string t] w fun e w' =>e= .returned (prV (txP s t))∧Below w.heap.size w w' :=by
 by_cases h:640 < t.size
 · rw [yo h];have h1:(640:Int) < (t.size:Int):=(by omega);go_in;go_wp2_with fail;refine bodyPost_ret (kg (fn:=Tryz.f47) rfl _ _ w.heap.size ⟨s,3,0,⟨#[]⟩⟩ rfl (Blk.new w _ _)) rfl ?_;exact ⟨rfl,(Below.refl _ _).alloc (Nat.le_refl _) _⟩
 · rw [oK h];exact Es s t (by omega) w
theorem lV (s t:ByteArray) (w:World):Calls Tryz.prog 50 #[.string s, .string t] w fun e w' =>e= .returned (prV (soP s t))∧Below w.heap.size w w' :=by
 unfold soP;by_cases h:t.size=0
 · obtain rfl:t=⟨#[]⟩:=by
    cases t with | mk d=>cases d with | mk l=>cases l with | nil=>rfl | cons a l=>simp [ByteArray.size] at h
   exact Et s w
 · rw [if_neg h];have h1:=mY h;go_in;go_wp2_with fail;refine (iX s t _).mono ?_;rintro e w1 ⟨rfl,hb1⟩;have HX:=Blk.below (Blk.new w #[.string ⟨#[]⟩, .int .i64 0, .int .i64 0, .string ⟨#[]⟩] 79) hb1;go_wp2_with ((with_reducible refine ae ?_ 79 (.tmp 4) (.tmp 11) ?_ HX (prA (txP s t)) ?_ ?_ ?_ ?_ ?_ ?_);(iterate 4 rfl);(exact I1 _);rfl;(exact Er _));refine bodyPost_ret (kg (fn:=Tryz.f50) rfl _ _ w.heap.size (txP s t) rfl (Blk.row HX _)) rfl ?_;exact ⟨rfl,ai (aa ((Below.refl _ _).alloc (Nat.le_refl _) _) (by exact hb1)) (Nat.le_refl _) _⟩
theorem BV {fn:Func} {n:Nat} (h:fn.results=#[.cell n 77]) (tmps:Array Value) (w:World) (g:Nat) (r:Rc) (s:Value) (hp:tmps.getD n undef= .pointer (some ⟨g,0,none⟩)) (hg:Blk w g 77 (rcC r s)):
  (results fn tmps).run Tryz.prog w= .ok (rcV r s) w:=
 results_cell_row h tmps w g _ (rcC r s) (0,0) _ hp hg Tryz.underlying77 rfl (by show _=some 4;kernel_rfl)
def KQ (R:Rc) (w:World) (e:Ending) (w' :World):Prop:=∃ (A:Option Addr) (c:Nat),e= .returned (rcV R (.slice A R.ps.length c))∧AtE EP w' w'.heap.size A R.ps∧Below w.heap.size w w'
abbrev zrC:Array Value:=#[.int .i64 0, .int .i64 0, .int .i64 0, .slice none 0 0]
theorem vK {α:Type} (E:El α) {w:World} {g:Nat} {cs:Array Value} {t:TypeId} (hb:Blk w g t cs) (L:List α) (h:cs.toList=L.flatMap E.C) {B:Nat} (hB:g < B):AtE E w B (some ⟨g,0,none⟩) L:=fun k hk=>by
 refine ⟨_,rfl,hB,fun j hj=>?_⟩;rw [lZ,hb.cell, ← Array.getElem?_toList,h,E.dI L k hk j hj]
abbrev pcC (c:Ctx) (r:dX):Array Value:=#[.int .i64 (c.p 0), .int .i64 (c.p 1), .int .i64 (c.p 2), .int .i64 (c.p 3), .int .i64 (c.p 4), .int .i64 (c.p 5), .int .i64 (c.p 6), .int .i64 (c.p 7), .int .i64 r.d, .int .i64 r.i, .string c.comm, .string c.exe,r.o.v, .bool r.u]
abbrev zpC:Array Value:=#[.int .i64 0, .int .i64 0, .int .i64 0, .int .i64 0, .int .i64 0, .int .i64 0, .int .i64 0, .int .i64 0, .int .i64 0, .int .i64 0, .string ⟨#[]⟩, .string ⟨#[]⟩, .slice none 0 0, .bool false]
theorem Ca (c:Ctx) (r:dX) (it:Value) (j:Nat) (u:Value) (h:(pcC c r).toList[j]? =some u):(gu c r it)[1+j]? =some u:=by
 have hl:(gu c r it).toList= [.int .i64 c.ph] ++ ((pcC c r).toList ++ [.int .i64 r.n, .int .i64 (c.a 0), .int .i64 (c.a 1), .int .i64 (c.a 2), .int .i64 (c.a 3),r.ps.v,r.gs.v, .int .i64 c.ex,it, .int .i64 c.ty]):=rfl;rw [← Array.getElem?_toList,hl,List.getElem?_append_right (by simp)];have hj:=(List.getElem?_eq_some_iff.1 h).1;rw [List.getElem?_append_left (by simpa using hj)];simpa using h
theorem Cb (c:Ctx) (r:dX):(Tryz.prog.info? 47).map (·.size)=some (pcC c r).size:=by show _=some 14;kernel_rfl
theorem zL (c:Ctx) (r:dX):zpC.size=(pcC c r).size:=rfl
theorem zM (c:Ctx) (r:dX):(pcC c r).all (·.oneCell')=true:=by simp [Value.oneCell']
theorem Ce {w:World} {g:Nat} {c:Ctx} {r:dX} {it:Value} (h:Blk w g 54 (gu c r it)):(loadVar 47 ⟨g,1,none⟩).run Tryz.prog w= .ok (.agg (pcC c r)) w:=
 qm (fun j u hu=>by rw [Ha,h.cell];exact Ca c r it j u hu) Tryz.underlying47 rfl (Cb c r)
attribute [local irreducible] gu
attribute [-go_sem] loadVar
attribute [local go_sem] lv3
end Go.Proofs.YtollifnnpihfdaaGreatDoor
