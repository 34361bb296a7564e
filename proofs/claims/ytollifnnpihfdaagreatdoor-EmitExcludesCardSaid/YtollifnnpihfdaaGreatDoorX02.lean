import Derived.Test.YtollifnnpihfdaaGreatDoorX01
import Derived.Deep.RegionLaw
import Derived.Deep.DeepCutAuto
import Derived.Deep.CutBlock
set_option maxRecDepth 100000
set_option maxHeartbeats 64000000
set_option linter.all false
namespace Go.Proofs.YtollifnnpihfdaaGreatDoor
open Go.RowKit
structure El (α:Type) where
 C:α→List Value
 e:TypeId
 sl:TypeId
 sz:Nat
 bs:Nat
 len:∀ a,(C a).length=sz
 one:∀ a,∀ u∈C a,u.oneCell' =true
 pos:0 < sz
 small:bs≤1000
 hu:Tryz.prog.underlying sl=some (.slice e)
 info:∃ (i0:TypeInfo) (z:Value),Tryz.prog.info? e=some i0∧i0.zero=some z∧i0.size=sz∧i0.bytes=bs∧z.cells.size=sz
section
variable {α:Type} {E:El α} {w w' :World} {B B' base lo:Nat} {A:Option Addr} {v:Value} {L M:List α}
theorem El.flat (E:El α) (L:List α):(L.flatMap E.C).length=L.length * E.sz:=by
 induction L with
 | nil=>simp
 | cons a L ih=>rw [List.flatMap_cons,List.length_append,ih,E.len,List.length_cons,Nat.succ_mul];omega
theorem El.dW (E:El α):∀ (L:List α) (k:Nat) (hk:k < L.length) (j:Nat),j < E.sz→(L.flatMap E.C)[k * E.sz+j]? =(E.C (L[k]'hk))[j]?
 | [],k,hk,_,_=>by simp at hk
 | p :: L,0,_,j,hj=>by
  rw [List.flatMap_cons,List.getElem?_append_left (by rw [E.len];omega)];simp
 | p :: L,k+1,hk,j,hj=>by
  have ih:=E.dW L k (by simp at hk;omega) j hj;have e:(k+1) * E.sz+j=E.sz+(k * E.sz+j):=by rw [Nat.succ_mul];omega
  rw [List.flatMap_cons,e,List.getElem?_append_right (by rw [E.len];omega),E.len,show E.sz+(k * E.sz+j) - E.sz=k * E.sz+j by omega,ih];simp
def AtE (E:El α) (w:World) (B:Nat) (A:Option Addr) (L:List α):Prop:=∀ k (hk:k < L.length),∃ ad:Addr,A=some ad∧ad.block < B∧∀ j,j < E.sz→w.cell? ((ad.add (k * E.sz)).add j)=(E.C (L[k]'hk))[j]?
theorem ak (a:Addr) (n:Nat):(a.add n).block=a.block:=by unfold Addr.add;split <;> rfl
theorem AtE.keep (h:AtE E w B A L) (hb:Below B' w w') (hB:B≤B'):AtE E w' B A L:=fun k hk=>by
 obtain ⟨ad,e,hl,hc⟩:=h k hk;exact ⟨ad,e,hl,fun j hj=>(hb.cell (by rw [ak,ak];omega)).trans (hc j hj)⟩
theorem AtE.more (h:AtE E w B A L) (hB:B≤B'):AtE E w B' A L:=fun k hk=>by
 obtain ⟨ad,e,hl,hc⟩:=h k hk;exact ⟨ad,e,by omega,hc⟩
theorem AtE.below (h:AtE E w w.heap.size A L) (hb:Below w.heap.size w w'):AtE E w' w'.heap.size A L:=(h.keep hb (Nat.le_refl _)).more hb.size
theorem AtE.nil:AtE E w B A []:=fun k hk=>by simp at hk
def ax (E:El α) (w:World) (base:Nat) (v:Value) (L:List α):Prop:=w.ownsRow base E.e E.sz v L.length (L.flatMap E.C)
theorem ax.nil (w:World) (base:Nat):ax E w base (.slice none 0 0) []:=World.ownsRow_nil _ _ _ _
theorem ax.alloc (h:ax E w base v L) (o:Obj):ax E (w.alloc o) base v L:=World.ownsRow.alloc h o
theorem ax.ge (h:ax E w base v L):∀ r,v.ownBlock=some r→base≤r:=fun r hr=>(World.ownsRow.lt h r hr).1
theorem ax.lt (h:ax E w base v L):∀ r,v.ownBlock=some r→r < w.heap.size:=fun r hr=>(World.ownsRow.lt h r hr).2
theorem ax.below (h:ax E w base v L) (hb:Below w.heap.size w w'):ax E w' base v L:=
 World.ownsRow.kept (row:=none) h ⟨hb.os,hb.tape,hb.output,hb.size,fun i hi _=>hb.block i hi⟩ (by
  cases hv:v.ownBlock with
  | none=>exact .inl rfl
  | some k=>exact .inr (by simp))
theorem ax.far (h:ax E w base v L) {row:Option Nat} (hg:w.grownBy w' row) (hne:∀ k,v.ownBlock=some k→row≠some k):ax E w' base v L:=
 World.ownsRow.kept h hg (by
  cases hv:v.ownBlock with
  | none=>exact .inl rfl
  | some k=>right;intro e;exact hne k hv e.symm)
theorem ax.bY (h:ax E w base v L) {g i:Nat} (hne:v.ownBlock≠some g) (u:Value):ax E (w.setCell ⟨g,i,none⟩ u) base v L:=
 h.far (row:=some g) ⟨rfl,rfl,rfl,by simp [World.setCell],fun k _ hk=>Below.heap_setCell _ _ _ _ (fun e=>hk (by rw [e]))⟩ (fun k hk e=>hne (by rw [hk];exact e.symm))
theorem ax.sW (h:ax E w base v L) {g:Nat} (hne:v.ownBlock≠some g) (cs:Array Value):ax E (w.setRow g cs) base v L:=
 h.far (row:=some g) ⟨rfl,rfl,rfl,by rw [setRow_size];exact Nat.le_refl _,fun i _ hne=>setRow_other _ g i cs (fun e=>hne (by rw [e]))⟩ (fun k hk e=>hne (by rw [hk];exact e.symm))
theorem ax.low (h:ax E w lo v L) (hb:base≤lo):ax E w base v L:=Joins.ownsRow_le h hb
theorem mE (g a b:Nat):((⟨g,0,none⟩:Addr).add a).add b=⟨g,a+b,none⟩:=by
 unfold Addr.add;split
 · split
   · subst_vars;rfl
   · subst_vars;simp
 · split
   · subst_vars;simp
   · simp
theorem bO (g n:Nat):(⟨g,0,none⟩:Addr).add n=⟨g,n,none⟩:=by
 unfold Addr.add;split
 · subst_vars;rfl
 · simp
theorem ax.at (h:ax E w base v L):∃ A c,v= .slice A L.length c∧AtE E w w.heap.size A L:=by
 rcases Joins.ownsRow_forms h with ⟨rfl,h0⟩ | ⟨g,cap,rfl⟩
 · have:L= []:=List.eq_nil_of_length_eq_zero h0;subst this;exact ⟨none,0,rfl,AtE.nil⟩
 · refine ⟨_,cap,rfl,fun k hk=>⟨_,rfl,(World.ownsRow.lt h g rfl).2,fun j hj=>?_⟩⟩;have hf:=E.dW L k hk j hj;have hs:j < (E.C (L[k]'hk)).length:=(by rw [E.len];exact hj);rw [List.getElem?_eq_getElem hs] at hf ⊢;have hc:=World.ownsRow.cells h (g:=g) rfl (k * E.sz+j) _ hf;rw [bO] at hc;rw [mE];exact hc
theorem iO (E:El α) (w:World) (base:Nat) (ty:TypeId) (v:Value) (L:List α) (B:Nat) (A:Option Addr) (n c:Nat) (M:List α) (hn:n=M.length) (hown:ax E w base v L) (hr:AtE E w B A M) (hlen:L.length+M.length≤1000000) (hbase:base≤w.heap.size):
   ∃ v' w',(Builtin.append_ #[E.sl,E.sl] ty #[v, .slice A n c]).run Tryz.prog w= .ok v' w' ∧ax E w' base v' (L ++ M)∧w.grownBy w' v.ownBlock∧(v'.ownBlock=v.ownBlock∨v'.ownBlock=some w.heap.size):=by
 subst hn;have h:=hown;obtain ⟨i0,z,hi,hz,hs,hb,hzs⟩:=E.info;rcases A with _ | ad
 · have hM:M= []:=by
     cases M with
     | nil=>rfl
     | cons s r=>obtain ⟨ad,e,_⟩:=hr 0 (by simp);cases e
   subst hM;refine ⟨v,w,?_,by simpa using hown,World.grownBy.refl w _, .inl rfl⟩;rcases h.2 with ⟨rfl,_⟩ | ⟨g,cap,cur,rfl,_,_,hnc,_⟩
   · simp [Builtin.append_,run_underlying E.hu,sizeOf,typeInfo,hi,Builtin.lenOf,Builtin.firstCells]
   · simp [Builtin.append_,run_underlying E.hu,sizeOf,typeInfo,hi,Builtin.lenOf,Builtin.firstCells,hnc,storeCells]
 · obtain ⟨v',w',hrun,h2,h3,_,h5⟩:=run_append_own_at (P:=Tryz.prog) w base E.sl ty E.e i0 z E.sz E.bs E.hu hi hz hs hb hzs E.pos v L.length _ h ad M.length c (M.flatMap E.C) (E.flat M) (fun j u hu=>by
     have hj:j < M.length * E.sz:=(by have:=(List.getElem?_eq_some_iff.1 hu).1;rwa [E.flat] at this);have hk:j / E.sz < M.length:=Nat.div_lt_of_lt_mul (by rw [Nat.mul_comm];exact hj);have e:j=j / E.sz * E.sz+j % E.sz:=(by rw [Nat.mul_comm];exact (Nat.div_add_mod j E.sz).symm);have hm:j % E.sz < E.sz:=Nat.mod_lt _ E.pos;obtain ⟨ad',e',_,hc⟩:=hr (j / E.sz) hk;cases e';have h2:=hc (j % E.sz) hm;rw [Addr.add_add, ← e] at h2;rw [h2];have h3:=E.dW M (j / E.sz) hk (j % E.sz) hm;rw [← e] at h3;rw [← h3];exact hu) (by
     intro u hu;obtain ⟨t,_,ht⟩:=List.mem_flatMap.1 hu;exact E.one t u ht) (by unfold maxLen;omega) (by
      have h1:(L.length+M.length) * E.bs≤1000000 * 1000:=Nat.mul_le_mul hlen E.small;omega) hbase
   refine ⟨v',w',hrun,?_,h3,h5⟩;show w'.ownsRow base E.e E.sz v' (L ++ M).length ((L ++ M).flatMap E.C);rw [List.length_append,List.flatMap_append];exact h2
theorem aI (E:El α) (w:World) (cs:Array Value) (t:TypeId) (x:α) (h:cs.toList=E.C x) (hB:w.heap.size < B):AtE E (w.alloc (.cells cs t)) B (some ⟨w.heap.size,0,none⟩) [x]:=fun k hk=>by
 have hk0:k=0:=by simpa using hk
 subst hk0;refine ⟨_,rfl,hB,fun j hj=>?_⟩;rw [Nat.zero_mul,mE,(Blk.new w cs t).cell,Nat.zero_add, ← Array.getElem?_toList,h];rfl
theorem aj (E:El α) {ops:Array Oper} {rest:List Oper} {o:Oper} {a:Act} {Q:Exit→Act→World→Prop} (hgd:o.guard=none) (s x:Operand) (ho:o.op= .call { callee:= .builtin .append,args:=#[s,x],argTypes:=#[E.sl,E.sl] })
  (base:Nat) (v:Value) (L:List α) (hs:a.eval s=v) (hown:ax E w base v L) (B:Nat) (A:Option Addr) (n c:Nat) (M:List α) (hx:a.eval x= .slice A n c) (hn:n=M.length) (hr:AtE E w B A M) (hlen:L.length+M.length≤1000000) (hbase:base≤w.heap.size)
  (h:∀ v' w',ax E w' base v' (L ++ M)→w.grownBy w' v.ownBlock→(v'.ownBlock=v.ownBlock∨v'.ownBlock=some w.heap.size)→wpList Tryz.prog ops Q rest (a.put o.dst v') w'):wpList Tryz.prog ops Q (o :: rest) a w:=
 wpList_plain hgd fun K hK=>by
  obtain ⟨v',w',hrun,h2,h3,h4⟩:=iO E w base o.type v L B A n c M hn hown hr hlen hbase;unfold Oper.wp execOp;simp only [ho,resolve,invoke,builtin,Sem.run_bind,Sem.run_pure,Result.andThen_ok,List.map_toArray,List.map_cons,List.map_nil,hs,hx,hrun];exact hK _ _ (h v' w' h2 h3 h4)
theorem aQ (E:El α) {ops:Array Oper} {o:Oper} {a:Act} {K:Act→World→Prop} {Q:Exit→Act→World→Prop} {F:Prop} (hgd:o.guard=none) (s x:Operand) (ho:o.op= .call { callee:= .builtin .append,args:=#[s,x],argTypes:=#[E.sl,E.sl] })
  (base:Nat) (v:Value) (L:List α) (hs:a.eval s=v) (hown:ax E w base v L) (B:Nat) (A:Option Addr) (n c:Nat) (M:List α) (hx:a.eval x= .slice A n c) (hn:n=M.length) (hr:AtE E w B A M) (hlen:L.length+M.length≤1000000) (hbase:base≤w.heap.size)
  (h:∀ v' w',ax E w' base v' (L ++ M)→w.grownBy w' v.ownBlock→(v'.ownBlock=v.ownBlock∨v'.ownBlock=some w.heap.size)→K (a.put o.dst v') w'):
  if Region.wanted o (yielded ops a.tmps)=true then Oper.wp Tryz.prog o a w K Q else F:=by
 have hw:Region.wanted o (yielded ops a.tmps)=true:=by simp [Region.wanted,hgd]
 rw [if_pos hw];obtain ⟨v',w',hrun,h2,h3,h4⟩:=iO E w base o.type v L B A n c M hn hown hr hlen hbase;unfold Oper.wp execOp;simp only [ho,resolve,invoke,builtin,Sem.run_bind,Sem.run_pure,Result.andThen_ok,List.map_toArray,List.map_cons,List.map_nil,hs,hx,hrun];exact h v' w' h2 h3 h4
end
structure En where
 nm:ByteArray
 ino:Int
structure Nd where
 ino:Int
 kind:Int
 mode:Int
 uid:Int
 gid:Int
 par:Int
 tg:ByteArray
 es:List En
structure Dv where
 nx:Int
 ns:List Nd
structure Nm where
 nd:Nd
 A:Option Addr
 c:Nat
structure Dm where
 nx:Int
 xs:List Nm
 A:Option Addr
 c:Nat
abbrev Nm.sl (x:Nm):Value:= .slice x.A x.nd.es.length x.c
abbrev Dm.sl (d:Dm):Value:= .slice d.A d.xs.length d.c
def Dm.dv (d:Dm):Dv:=⟨d.nx,d.xs.map (·.nd)⟩
abbrev ndC (n:Nd) (v:Value):Array Value:=#[.int .i64 n.ino, .int .i64 n.kind, .int .i64 n.mode, .int .i64 n.uid, .int .i64 n.gid, .int .i64 n.par, .string n.tg,v]
abbrev dvC (nx:Int) (v:Value):Array Value:=#[.int .i64 nx,v]
def zNd:Nd:=⟨0,0,0,0,0,0,⟨#[]⟩, []⟩
theorem Tryz.Eh:(Tryz.prog.info? 209).map (fun i=>(i.zero,i.size,i.bytes))=some (some (.agg #[.string ⟨#[]⟩, .int .i64 0]),2,24):=by kernel_rfl
theorem Tryz.Ei:(Tryz.prog.info? 145).map (fun i=>(i.zero,i.size,i.bytes))=some (some (.agg (ndC zNd (.slice none 0 0))),8,88):=by kernel_rfl
theorem Tryz.Ej:(Tryz.prog.info? 142).map (fun i=>(i.zero,i.size,i.bytes))=some (some (.agg (dvC 0 (.slice none 0 0))),2,32):=by kernel_rfl
def EEn:El En where
 C x:= [.string x.nm, .int .i64 x.ino]
 e:=209
 sl:=143
 sz:=2
 bs:=24
 len _:=rfl
 one x u hu:=by simp at hu;rcases hu with rfl | rfl <;> rfl
 pos:=by omega
 small:=by omega
 hu:=Tryz.underlying143
 info:=by
  obtain ⟨i0,h1,h2,h3,h4⟩:=info_parts Tryz.Eh;exact ⟨i0,_,h1,h2,h3,h4,rfl⟩
def ENd:El Nm where
 C x:= [.int .i64 x.nd.ino, .int .i64 x.nd.kind, .int .i64 x.nd.mode, .int .i64 x.nd.uid, .int .i64 x.nd.gid, .int .i64 x.nd.par, .string x.nd.tg, .slice x.A x.nd.es.length x.c]
 e:=145
 sl:=140
 sz:=8
 bs:=88
 len _:=rfl
 one x u hu:=by simp at hu;rcases hu with rfl | rfl | rfl | rfl | rfl | rfl | rfl | rfl <;> rfl
 pos:=by omega
 small:=by omega
 hu:=Tryz.underlying140
 info:=by
  obtain ⟨i0,h1,h2,h3,h4⟩:=info_parts Tryz.Ei;exact ⟨i0,_,h1,h2,h3,h4,rfl⟩
def EDv:El Dm where
 C d:= [.int .i64 d.nx, .slice d.A d.xs.length d.c]
 e:=142
 sl:=26
 sz:=2
 bs:=32
 len _:=rfl
 one x u hu:=by simp at hu;rcases hu with rfl | rfl <;> rfl
 pos:=by omega
 small:=by omega
 hu:=Tryz.underlying26
 info:=by
  obtain ⟨i0,h1,h2,h3,h4⟩:=info_parts Tryz.Ej;exact ⟨i0,_,h1,h2,h3,h4,rfl⟩
def iP (n:Nd):Prop:=n.es.length≤1000∧n.tg.size≤1000∧∀ x∈n.es,x.nm.size≤1000
structure bZ (w:World) (B:Nat) (A:Option Addr) (ds:List Dm):Prop where
 at_:AtE EDv w B A ds
 few:ds.length≤1000
 nodes:∀ d∈ds,AtE ENd w B d.A d.xs∧d.xs.length≤1000
 cu:∀ d∈ds,∀ x∈d.xs,AtE EEn w B x.A x.nd.es∧iP x.nd
section
variable {w w' :World} {B B' :Nat} {A:Option Addr} {ds:List Dm}
theorem bZ.keep (h:bZ w B A ds) (hb:Below B' w w') (hB:B≤B'):bZ w' B A ds:=
 ⟨h.at_.keep hb hB,h.few,fun d hd=>⟨(h.nodes d hd).1.keep hb hB,(h.nodes d hd).2⟩,fun d hd x hx=>⟨(h.cu d hd x hx).1.keep hb hB,(h.cu d hd x hx).2⟩⟩
theorem bZ.more (h:bZ w B A ds) (hB:B≤B'):bZ w B' A ds:=
 ⟨h.at_.more hB,h.few,fun d hd=>⟨(h.nodes d hd).1.more hB,(h.nodes d hd).2⟩,fun d hd x hx=>⟨(h.cu d hd x hx).1.more hB,(h.cu d hd x hx).2⟩⟩
theorem bZ.below (h:bZ w w.heap.size A ds) (hb:Below w.heap.size w w'):bZ w' w'.heap.size A ds:=(h.keep hb (Nat.le_refl _)).more hb.size
end
def eZ (f:List Dv) (dev:Int):Option Dv:=if dev < 0 then none else f[dev.toNat]?
def iQ (l:List Nd) (ino:Int):Option Nat:=l.findIdx? (fun n=>n.ino == ino)
def fe (f:List Dv) (dev ino:Int):Option Nat:=(eZ f dev).bind fun d=>iQ d.ns ino
def aD (f:List Dv) (dev ino:Int):Option Nd:=(eZ f dev).bind fun d=>d.ns.find? (fun n=>n.ino == ino)
def bK (f:List Dv) (dev ino:Int):Bool:=match aD f dev ino with | some n=>n.kind == 2 | none=>false
def Em:Option Nat→Int | some i=>i | none=> -1
theorem fT {w:World} {a:Addr} {x:En} (h:∀ j,j < 2→w.cell? (a.add j)=(EEn.C x)[j]?):w.cell? a=some (.string x.nm)∧w.cell? ⟨a.block,a.off+1,none⟩=some (.int .i64 x.ino):=⟨h 0 (by omega),h 1 (by omega)⟩
theorem bM {w:World} {a:Addr} {d:Dm} (h:∀ j,j < 2→w.cell? (a.add j)=(EDv.C d)[j]?):w.cell? a=some (.int .i64 d.nx)∧w.cell? ⟨a.block,a.off+1,none⟩=some (.slice d.A d.xs.length d.c):=⟨h 0 (by omega),h 1 (by omega)⟩
theorem dh {w:World} {a:Addr} {x:Nm} (h:∀ j,j < 8→w.cell? (a.add j)=(ENd.C x)[j]?):
  w.cell? a=some (.int .i64 x.nd.ino)∧w.cell? ⟨a.block,a.off+1,none⟩=some (.int .i64 x.nd.kind)∧w.cell? ⟨a.block,a.off+2,none⟩=some (.int .i64 x.nd.mode)∧w.cell? ⟨a.block,a.off+3,none⟩=some (.int .i64 x.nd.uid)∧w.cell? ⟨a.block,a.off+4,none⟩=some (.int .i64 x.nd.gid)∧w.cell? ⟨a.block,a.off+5,none⟩=some (.int .i64 x.nd.par)∧w.cell? ⟨a.block,a.off+6,none⟩=some (.string x.nd.tg)∧w.cell? ⟨a.block,a.off+7,none⟩=some (.slice x.A x.nd.es.length x.c):=
 ⟨h 0 (by omega),h 1 (by omega),h 2 (by omega),h 3 (by omega),h 4 (by omega),h 5 (by omega),h 6 (by omega),h 7 (by omega)⟩
theorem iR {ds:List Dm} {dev:Int} (h:dev < 0∨(ds.length:Int)≤dev):eZ (ds.map Dm.dv) dev=none:=by
 unfold eZ;split
 · rfl
 · rw [List.getElem?_eq_none];simp;omega
theorem dG {ds:List Dm} {dev:Int} (h0:0≤dev) (h1:dev.toNat < ds.length):eZ (ds.map Dm.dv) dev=some (ds[dev.toNat].dv):=by
 unfold eZ;rw [if_neg (by omega),List.getElem?_map,List.getElem?_eq_getElem h1];rfl
theorem sZ {l:List Nd} {ino:Int} (h:∀ k (hk:k < l.length),(l[k].ino == ino)=false):iQ l ino=none:=by
 unfold iQ;rw [List.findIdx?_eq_none_iff];intro x hx;obtain ⟨k,hk,rfl⟩:=List.getElem_of_mem hx;exact h k hk
theorem tq {l:List Nd} {ino:Int} {k:Nat} (hk:k < l.length) (h:∀ j (hj:j < k),(l[j].ino == ino)=false) (he:(l[k].ino == ino)=true):iQ l ino=some k:=by
 unfold iQ;rw [List.findIdx?_eq_some_iff_getElem];exact ⟨hk,he,fun j hj=>by rw [h j hj];decide⟩
theorem xJ {l:List Nd} {ino:Int} {k:Nat} (h:iQ l ino=some k):∃ hk:k < l.length,l.find? (fun n=>n.ino == ino)=some l[k]:=by
 unfold iQ at h;obtain ⟨hk,he,hn⟩:=List.findIdx?_eq_some_iff_getElem.1 h;refine ⟨hk,?_⟩;rw [List.find?_eq_some_iff_getElem];exact ⟨he,k,hk,rfl,fun j hj=>by have:=hn j hj;simpa using this⟩
theorem xK {l:List Nd} {ino:Int} (h:iQ l ino=none):l.find? (fun n=>n.ino == ino)=none:=by
 unfold iQ at h;rw [List.findIdx?_eq_none_iff] at h;rw [List.find?_eq_none];intro x hx;rw [h x hx];decide
theorem bg {q n:Nat} (h:q≤n) (h9:n≤1000000):wrap64 ((q:Int)+1)=(q:Int)+1∧IntKind.i64.wrap ((q:Int)+1)=(q:Int)+1:=⟨IntWalk.wrap64_in _ (by omega),IntWalk.i64_in _ (by omega)⟩
abbrev fsV (A:Option Addr) (n c:Nat):Value:= .agg #[.slice A n c]
abbrev flV (dev ino:Int):Value:= .agg #[.int .i64 dev, .int .i64 ino]
theorem kv (dev ino:Int) (ds:List Dm) (A:Option Addr) (n c:Nat) (hn:n=ds.length) (w:World) (h:bZ w w.heap.size A ds):
   Calls Tryz.prog 117 #[fsV A n c,flV dev ino] w fun e w' =>e= .returned (.int .i64 (Em (fe (ds.map Dm.dv) dev ino)))∧Below w.heap.size w w' :=by
 have HN:=Hd hn;have HB:=Hd (show Below w.heap.size w ((w.alloc (.cells #[.slice A n c] 28)).alloc (.cells #[.int .i64 dev, .int .i64 ino] 44)) from ((Below.refl w.heap.size w).alloc (Nat.le_refl _) _).alloc (by simp) _);have HF:=Hd (h.below HB.o);have HW:=Hd h.few;clear h hn;by_cases h0:dev < 0
 · have HR:=Hd (show fe (ds.map Dm.dv) dev ino=none by unfold fe;rw [iR (.inl h0)];rfl);go_in;go_wp2_with fail;go_ret;exact ⟨by rw [HR.o];rfl,HB.o⟩
 have h0' :¬ dev < 0:=h0;by_cases h1:(n:Int)≤dev
 · have HR:=Hd (show fe (ds.map Dm.dv) dev ino=none by unfold fe;rw [iR (.inr (by rw [← HN.o];exact h1))];rfl);go_in;go_wp2_with fail;go_ret;exact ⟨by rw [HR.o];rfl,HB.o⟩
 obtain ⟨k,rfl⟩:∃ k:Nat,dev=k:=⟨dev.toNat,by omega⟩;have hk:k < ds.length:=by rw [← HN.o];omega
 have k1:(k:Int) < (n:Int):=by omega
 have k2:(0:Int)≤(k:Int):=by omega
 have HI:=Hd (show fe (ds.map Dm.dv) (k:Int) ino=iQ (ds[k].xs.map (·.nd)) ino by
   unfold fe;rw [dG (by omega) (by rw [Int.toNat_natCast];exact hk)];rfl)
 have HD:=Hd (HF.o.nodes ds[k] (List.getElem_mem hk));obtain ⟨ad,rfl,hab,hcx⟩:=HF.o.at_ k hk;obtain ⟨s0,s1⟩:=bM (a:=ad.add (k * 2)) hcx;clear hcx h0 h1;generalize ds[k]=d at *;go_in;go_wp2_with fail;generalize hW:(w.alloc (.cells #[.slice (some ad) n c] 28)).alloc (.cells #[.int .i64 (k:Int), .int .i64 ino] 44)=W at *;have q1:W.cell? ⟨w.heap.size+1,1,none⟩=some (.int .i64 ino):=by
   rw [← hW];have:=(Blk.new (w.alloc (.cells #[.slice (some ad) n c] 28)) #[.int .i64 (k:Int), .int .i64 ino] 44).cell 1;simpa using this
 clear hW s0 s1;go_loopw [6] (fun i wr=>∃ j t:Nat,j≤d.xs.length∧i= .int .i64 j∧wr=W.drewN t∧∀ q (hq:q < j) (hl:q < d.xs.length),(d.xs[q].nd.ino == ino)=false) (fun i _=>d.xs.length - (intOf i).toNat);case atStart=>exact ⟨0,0,Nat.zero_le _,rfl,rfl,fun q hq=>by omega⟩
 case round=>
   obtain ⟨j,t,hj,rfl,rfl,hno⟩:=hrel;have HNO:=Hd hno;clear hno;by_cases hlt:j < d.xs.length
   · have j1:(j:Int) < (d.xs.length:Int):=(by omega);have j2:(0:Int)≤(j:Int):=(by omega);have j3:=HD.o.2;have w1:wrap64 ((j:Int)+1)=(j:Int)+1:=IntWalk.wrap64_in _ (by omega);have w2:IntKind.i64.wrap ((j:Int)+1)=(j:Int)+1:=IntWalk.i64_in _ (by omega);obtain ⟨bd,hbd,hbb,hcy⟩:=HD.o.1 j hlt;obtain ⟨t0,t1⟩:=dh (a:=bd.add (j * 8)) hcy;have HX:=Hd (fun h:(d.xs[j].nd.ino == ino)=true=>tq (l:=d.xs.map (·.nd)) (ino:=ino) (k:=j) (by simpa using hlt) (fun q hq=>by simpa using HNO.o q hq (by omega)) (by simpa using h));have HY:=Hd (fun h:(d.xs[j].nd.ino == ino)=false=>show ∀ q (hq:q < j+1) (hl:q < d.xs.length),(d.xs[q].nd.ino == ino)=false from fun q hq hl=>by
      by_cases he:q=j
      · subst he;exact h
      · exact HNO.o q (by omega) hl)
     clear hcy t1 HNO;generalize d.xs[j]=x at *;rw [hbd];cases hb:(x.nd.ino == ino) with
     | true=>
      have HR:=Hd (HX.o hb);go_upto_region 7 with fail;go_quiet (fail);go_wp2_with fail;go_ret;exact ⟨by rw [HI.o,HR.o];rfl,below_drewN (below_drewN HB.o _) _⟩
     | false=>
      have HR:=Hd (HY.o hb);go_upto_region 7 with fail;go_quiet (fail);go_wp2_with fail;go_roundw;case rel=>exact ⟨j+1,_,by omega,by go_num,rfl,HR.o⟩
      case measure=>simp [intOf];omega
   · have j1:¬ (j:Int) < (d.xs.length:Int):=(by omega);have HR:=Hd (show iQ (d.xs.map (·.nd)) ino=none from sZ (fun q hq=>by simpa using HNO.o q (by simp at hq;omega) (by simpa using hq)));go_wp2_with fail;go_ret;exact ⟨by rw [HI.o,HR.o];rfl,below_drewN HB.o _⟩
theorem gL (n:Nd) (v:Value):(Tryz.prog.info? 145).map (·.size)=some (ndC n v).size:=by show _=some 8;kernel_rfl
theorem fu (n:Nd) (A:Option Addr) (k c:Nat):(ndC n (.slice A k c)).all (·.oneCell')=true:=by simp [Value.oneCell']
abbrev ndZ:Array Value:=#[.int .i64 0, .int .i64 0, .int .i64 0, .int .i64 0, .int .i64 0, .int .i64 0, .string ⟨#[]⟩, .slice none 0 0]
def jW (o:Option Nd) (w:World) (e:Ending) (w' :World):Prop:=
 match o with
 | some n=>∃ (A:Option Addr) (c:Nat),e= .returned (.tuple #[.agg (ndC n (.slice A n.es.length c)), .bool true])∧ax EEn w' w.heap.size (.slice A n.es.length c) n.es∧Below w.heap.size w w' ∧iP n
 | none=>e= .returned (.tuple #[.agg ndZ, .bool false])∧Below w.heap.size w w'
theorem mF {fn:Func} {i j:Nat} (h:fn.results=#[.cell i 145, .tmp j]) (tmps:Array Value) (w:World) (g:Nat) (n:Nd) (v:Value) (hp:tmps.getD i undef= .pointer (some ⟨g,0,none⟩)) (hg:Blk w g 145 (ndC n v)):
  (results fn tmps).run Tryz.prog w= .ok (.tuple #[.agg (ndC n v),tmps.getD j undef]) w:=by
 have hp' :tmps[i]?.getD undef= .pointer (some ⟨g,0,none⟩):=by simpa using hp
 simp [results,h,hp',asAddr,run_loadVar_row w g 145 145 (ndC n v) (0,0) _ hg Tryz.underlying145 rfl (gL n v)]
theorem dQ {ds:List Dm} {dev ino:Int} {k:Nat} (h:fe (ds.map Dm.dv) dev ino=some k):∃ (j:Nat) (hj:j < ds.length) (hk:k < ds[j].xs.length),dev=(j:Int)∧aD (ds.map Dm.dv) dev ino=some (ds[j].xs[k].nd):=by
 unfold fe at h;cases hd:eZ (ds.map Dm.dv) dev with
 | none=>rw [hd] at h;cases h
 | some d=>
  rw [hd] at h;have hd' :=hd;unfold eZ at hd';split at hd'
  · cases hd'
  · rw [List.getElem?_map] at hd';obtain ⟨dm,e1,e2⟩:=Option.map_eq_some_iff.1 hd';obtain ⟨hj,e3⟩:=List.getElem?_eq_some_iff.1 e1;have hi:iQ d.ns ino=some k:=h;obtain ⟨hk,hf⟩:=xJ hi;subst e2;subst e3;refine ⟨dev.toNat,hj,by simpa [Dm.dv] using hk,by omega,?_⟩;unfold aD;rw [hd];show List.find? _ _=_;rw [hf];simp [Dm.dv]
theorem xL {f:List Dv} {dev ino:Int} (h:fe f dev ino=none):aD f dev ino=none:=by
 unfold fe at h;unfold aD;cases hd:eZ f dev with
 | none=>rfl
 | some d=>
  rw [hd] at h;exact xK h
theorem bP (dev ino:Int) (ds:List Dm) (A:Option Addr) (n c:Nat) (hn:n=ds.length) (w:World) (h:bZ w w.heap.size A ds):
  Calls Tryz.prog 70 #[fsV A n c,flV dev ino] w (jW (aD (ds.map Dm.dv) dev ino) w):=by
 have HN:=Hd hn;have hs1:(w.alloc (.cells #[.slice A n c] 28)).heap.size=w.heap.size+1:=by simp
 have hs2:((w.alloc (.cells #[.slice A n c] 28)).alloc (.cells #[.int .i64 dev, .int .i64 ino] 44)).heap.size=w.heap.size+1+1:=by simp
 have B0:=Hd (show Below w.heap.size w (((w.alloc (.cells #[.slice A n c] 28)).alloc (.cells #[.int .i64 dev, .int .i64 ino] 44)).alloc (.cells ndZ 145)) from
  (((Below.refl w.heap.size w).alloc (Nat.le_refl _) _).alloc (by rw [hs1];omega) _).alloc (by rw [hs2];omega) _)
 have F0:=Hd (h.below B0.o);have R0:=Hd (show Blk (((w.alloc (.cells #[.slice A n c] 28)).alloc (.cells #[.int .i64 dev, .int .i64 ino] 44)).alloc (.cells ndZ 145)) (w.heap.size+1+1) 145 ndZ by
  have h:=Blk.new ((w.alloc (.cells #[.slice A n c] 28)).alloc (.cells #[.int .i64 dev, .int .i64 ino] 44)) ndZ 145;rw [hs2] at h;exact h)
 have V0:=Hd (((Blk.new w #[.slice A n c] 28).alloc (.cells #[.int .i64 dev, .int .i64 ino] 44)).alloc (.cells ndZ 145));have U0:=Hd (show Blk (((w.alloc (.cells #[.slice A n c] 28)).alloc (.cells #[.int .i64 dev, .int .i64 ino] 44)).alloc (.cells ndZ 145)) (w.heap.size+1) 44 #[.int .i64 dev, .int .i64 ino] by
  have h:=(Blk.new (w.alloc (.cells #[.slice A n c] 28)) #[.int .i64 dev, .int .i64 ino] 44).alloc (.cells ndZ 145);rw [hs1] at h;exact h)
 clear h hn hs1 hs2;go_in;go_wp2_with fail;generalize (((w.alloc (.cells #[.slice A n c] 28)).alloc (.cells #[.int .i64 dev, .int .i64 ino] 44)).alloc (.cells ndZ 145))=w1 at *;refine (kv dev ino ds A n c HN.o w1 F0.o).mono ?_;rintro e w2 ⟨rfl,hb2⟩;have B2:=Hd (B0.o.trans (hb2.mono B0.o.size));have F2:=Hd (F0.o.below hb2);have R2:=Hd (R0.o.below hb2);have V2:=Hd (V0.o.below hb2);have U2:=Hd (U0.o.below hb2);clear hb2 B0 F0 R0 V0 U0;cases hi:fe (ds.map Dm.dv) dev ino with
 | none=>
  have HR:=Hd (xL hi);have i1:Em none < 0:=by decide
  clear hi;go_wp2_with ((with_reducible refine ae ?_ 145 (.tmp 4) (.tmp 13) ?_ R2.o ndZ ?_ ?_ ?_ ?_ ?_ ?_);(iterate 4 rfl);(exact gL zNd _);rfl;(exact fu zNd _ _ _));refine bodyPost_ret (mF (fn:=Tryz.f70) rfl _ _ (w.heap.size+1+1) zNd (.slice none 0 0) rfl (Blk.row R2.o _)) rfl ?_;rw [HR.o];exact ⟨rfl,ai B2.o (by omega) _⟩
 | some k=>
  obtain ⟨j,hj,hk,rfl,hnd⟩:=dQ hi;have HR:=Hd hnd;have j1:(j:Int) < (n:Int):=by rw [HN.o];omega
  have j2:(0:Int)≤(j:Int):=by omega
  have k2:(0:Int)≤(k:Int):=by omega
  have k1:(k:Int) < (ds[j].xs.length:Int):=by omega
  have i1:Em (some k)=(k:Int):=rfl;have i2:¬ (k:Int) < 0:=by omega
  have HD:=Hd (F2.o.nodes ds[j] (List.getElem_mem hj));have HE:=Hd (F2.o.cu ds[j] (List.getElem_mem hj) ds[j].xs[k] (List.getElem_mem hk));obtain ⟨ad,rfl,hab,hcx⟩:=F2.o.at_ j hj;obtain ⟨s0,s1⟩:=bM (a:=ad.add (j * 2)) hcx;obtain ⟨bd,hbd,hbb,hcy⟩:=HD.o.1 k hk;obtain ⟨t0,t1,t2,t3,t4,t5,t6,t7⟩:=dh (a:=bd.add (k * 8)) hcy;have v0:=V2.o.cell 0;have u0:=U2.o.cell 0;have u1:=U2.o.cell 1;rw [i1];clear hcx hcy hi hnd i1 HD;generalize ds[j]=d at *;generalize d.xs[k]=x at *;rw [hbd] at s1;have X2:=Hd (Blk.new w2 (ndC x.nd (.slice x.A x.nd.es.length x.c)) 145);have R3:=Hd (R2.o.alloc (.cells (ndC x.nd (.slice x.A x.nd.es.length x.c)) 145));have B3:=Hd (B2.o.alloc B2.o.size (.cells (ndC x.nd (.slice x.A x.nd.es.length x.c)) 145));have HE3:=Hd (show AtE EEn (w2.alloc (.cells (ndC x.nd (.slice x.A x.nd.es.length x.c)) 145)) w2.heap.size x.A x.nd.es from HE.o.1.keep ((Below.refl w2.heap.size w2).alloc (Nat.le_refl _) _) (Nat.le_refl _));have HL:=Hd HE.o.2.1;have HSZ:=Hd HE.o.2;have HLT:=Hd (show w.heap.size+1+1 < w2.heap.size from R2.o.lt);clear F2 HE V2 U2 R2 B2;have hs3:(w2.alloc (.cells (ndC x.nd (.slice x.A x.nd.es.length x.c)) 145)).heap.size=w2.heap.size+1:=by simp
  have hr2:=R3.o.lt;have hx2:=X2.o.lt;have hrx:w.heap.size+1+1 < w2.heap.size:=by
   have:=j1;exact HLT.o
  go_upto_region 5 with fail;generalize w2.alloc (.cells (ndC x.nd (.slice x.A x.nd.es.length x.c)) 145)=w3 at *;have x7:=X2.o.cell 7;go_wp2_with (refine aj EEn rfl (.const (.slice none 0 0)) (.tmp 25) rfl w.heap.size (.slice none 0 0) [] rfl (ax.nil _ _) w2.heap.size x.A x.nd.es.length x.c x.nd.es rfl rfl HE3.o (by simp;have:=HL.o;omega) B3.o.size ?_);intro v6 w6 ho6 hg6 iL;clear x7;have ho6:ax EEn w6 w.heap.size v6 x.nd.es:=ho6;have hne:∀ g,g < w3.heap.size→v6.ownBlock≠some g:=fun g hg e=>by
   rcases iL with h | h
   · rw [h] at e;cases e
   · rw [h] at e;injection e with e;omega
  have X6:=Hd (X2.o.grown hg6 (by simp [Value.ownBlock]));have R6:=Hd (R3.o.grown hg6 (by simp [Value.ownBlock]));have B6:=Hd (B3.o.grown hg6 B3.o.size (fun k e=>by simp [Value.ownBlock] at e));obtain ⟨A6,c6,rfl,_⟩:=ho6.at;have XP:=Hd (show Blk (w6.setCell ⟨w2.heap.size,7,none⟩ (.slice A6 x.nd.es.length c6)) w2.heap.size 145 (ndC x.nd (.slice A6 x.nd.es.length c6)) from X6.o.put 7 _);have RP:=Hd (R6.o.af (p:=⟨w2.heap.size,7,none⟩) (.slice A6 x.nd.es.length c6) (by show w.heap.size+1+1≠w2.heap.size;omega));have HO:=Hd (((ho6.bY (g:=w2.heap.size) (i:=7) (hne _ hx2) (.slice A6 x.nd.es.length c6))).sW (g:=w.heap.size+1+1) (hne _ (by omega)) (ndC x.nd (.slice A6 x.nd.es.length c6)));have BP:=Hd (ai (B6.o.setCell (p:=⟨w2.heap.size,7,none⟩) (by show w.heap.size≤w2.heap.size;omega) (.slice A6 x.nd.es.length c6)) (g:=w.heap.size+1+1) (by omega) (ndC x.nd (.slice A6 x.nd.es.length c6)));have x7:=X6.o.cell 7;have y7:=X6.o.free 7;clear ho6 hg6 iL hne;go_wp2_with (first | ((with_reducible refine ay ?_ 145 (.tmp 7) ?_ XP.o ?_ _ Tryz.underlying145 ?_ ?_ ?_);(iterate 4 rfl);exact gL _ _) | ((with_reducible refine ae ?_ 145 (.tmp 4) (.tmp 28) ?_ RP.o (ndC x.nd (.slice A6 x.nd.es.length c6)) ?_ ?_ ?_ ?_ ?_ ?_);(iterate 4 rfl);(exact gL _ _);rfl;(exact fu _ _ _ _)));refine bodyPost_ret (mF (fn:=Tryz.f70) rfl _ _ (w.heap.size+1+1) x.nd (.slice A6 x.nd.es.length c6) rfl (Blk.row RP.o _)) rfl ?_;rw [HR.o];exact ⟨A6,c6,rfl,HO.o,BP.o,HSZ.o⟩
end Go.Proofs.YtollifnnpihfdaaGreatDoor
