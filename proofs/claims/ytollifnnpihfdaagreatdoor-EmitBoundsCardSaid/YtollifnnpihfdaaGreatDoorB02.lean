import Derived.Test.YtollifnnpihfdaaGreatDoorB01
import Derived.Deep.RegionLaw
import Derived.Deep.DeepCutAuto
import Derived.Deep.CutBlock
set_option maxRecDepth 100000
set_option maxHeartbeats 64000000
set_option linter.all false
namespace Go.Proofs.YtollifnnpihfdaaGreatDoor
open Go.RowKit
structure El (α:Type) where
 C:α→List Value
 e:TypeId
 sl:TypeId
 sz:Nat
 bs:Nat
 len:∀ a,(C a).length=sz
 one:∀ a,∀ u∈C a,u.oneCell' =true
 pos:0 < sz
 small:bs≤1000
 hu:Tryz.prog.underlying sl=some (.slice e)
 info:∃ (i0:TypeInfo) (z:Value),Tryz.prog.info? e=some i0∧i0.zero=some z∧i0.size=sz∧i0.bytes=bs∧z.cells.size=sz
section
variable {α:Type} {E:El α} {w w' :World} {B B' base lo:Nat} {A:Option Addr} {v:Value} {L M:List α}
theorem El.flat (E:El α) (L:List α):(L.flatMap E.C).length=L.length * E.sz:=by
 induction L with
 | nil=>simp
 | cons a L ih=>rw [List.flatMap_cons,List.length_append,ih,E.len,List.length_cons,Nat.succ_mul];omega
theorem El.dX (E:El α):∀ (L:List α) (k:Nat) (hk:k < L.length) (j:Nat),j < E.sz→(L.flatMap E.C)[k * E.sz+j]? =(E.C (L[k]'hk))[j]?
 | [],k,hk,_,_=>by simp at hk
 | p :: L,0,_,j,hj=>by
  rw [List.flatMap_cons,List.getElem?_append_left (by rw [E.len];omega)];simp
 | p :: L,k+1,hk,j,hj=>by
  have ih:=E.dX L k (by simp at hk;omega) j hj;have e:(k+1) * E.sz+j=E.sz+(k * E.sz+j):=by rw [Nat.succ_mul];omega
  rw [List.flatMap_cons,e,List.getElem?_append_right (by rw [E.len];omega),E.len,show E.sz+(k * E.sz+j) - E.sz=k * E.sz+j by omega,ih];simp
def AtE (E:El α) (w:World) (B:Nat) (A:Option Addr) (L:List α):Prop:=∀ k (hk:k < L.length),∃ ad:Addr,A=some ad∧ad.block < B∧∀ j,j < E.sz→w.cell? ((ad.add (k * E.sz)).add j)=(E.C (L[k]'hk))[j]?
theorem ak (a:Addr) (n:Nat):(a.add n).block=a.block:=by unfold Addr.add;split <;> rfl
theorem AtE.keep (h:AtE E w B A L) (hb:Below B' w w') (hB:B≤B'):AtE E w' B A L:=fun k hk=>by
 obtain ⟨ad,e,hl,hc⟩:=h k hk;exact ⟨ad,e,hl,fun j hj=>(hb.cell (by rw [ak,ak];omega)).trans (hc j hj)⟩
theorem AtE.more (h:AtE E w B A L) (hB:B≤B'):AtE E w B' A L:=fun k hk=>by
 obtain ⟨ad,e,hl,hc⟩:=h k hk;exact ⟨ad,e,by omega,hc⟩
theorem AtE.below (h:AtE E w w.heap.size A L) (hb:Below w.heap.size w w'):AtE E w' w'.heap.size A L:=(h.keep hb (Nat.le_refl _)).more hb.size
theorem AtE.nil:AtE E w B A []:=fun k hk=>by simp at hk
def ax (E:El α) (w:World) (base:Nat) (v:Value) (L:List α):Prop:=w.ownsRow base E.e E.sz v L.length (L.flatMap E.C)
theorem ax.nil (w:World) (base:Nat):ax E w base (.slice none 0 0) []:=World.ownsRow_nil _ _ _ _
theorem ax.alloc (h:ax E w base v L) (o:Obj):ax E (w.alloc o) base v L:=World.ownsRow.alloc h o
theorem ax.ge (h:ax E w base v L):∀ r,v.ownBlock=some r→base≤r:=fun r hr=>(World.ownsRow.lt h r hr).1
theorem ax.lt (h:ax E w base v L):∀ r,v.ownBlock=some r→r < w.heap.size:=fun r hr=>(World.ownsRow.lt h r hr).2
theorem ax.below (h:ax E w base v L) (hb:Below w.heap.size w w'):ax E w' base v L:=
 World.ownsRow.kept (row:=none) h ⟨hb.os,hb.tape,hb.output,hb.size,fun i hi _=>hb.block i hi⟩ (by
  cases hv:v.ownBlock with
  | none=>exact .inl rfl
  | some k=>exact .inr (by simp))
theorem ax.far (h:ax E w base v L) {row:Option Nat} (hg:w.grownBy w' row) (hne:∀ k,v.ownBlock=some k→row≠some k):ax E w' base v L:=
 World.ownsRow.kept h hg (by
  cases hv:v.ownBlock with
  | none=>exact .inl rfl
  | some k=>right;intro e;exact hne k hv e.symm)
theorem ax.bH (h:ax E w base v L) {g i:Nat} (hne:v.ownBlock≠some g) (u:Value):ax E (w.setCell ⟨g,i,none⟩ u) base v L:=
 h.far (row:=some g) ⟨rfl,rfl,rfl,by simp [World.setCell],fun k _ hk=>Below.heap_setCell _ _ _ _ (fun e=>hk (by rw [e]))⟩ (fun k hk e=>hne (by rw [hk];exact e.symm))
theorem ax.uL (h:ax E w base v L) {g:Nat} (hne:v.ownBlock≠some g) (cs:Array Value):ax E (w.setRow g cs) base v L:=
 h.far (row:=some g) ⟨rfl,rfl,rfl,by rw [setRow_size];exact Nat.le_refl _,fun i _ hne=>setRow_other _ g i cs (fun e=>hne (by rw [e]))⟩ (fun k hk e=>hne (by rw [hk];exact e.symm))
theorem ax.low (h:ax E w lo v L) (hb:base≤lo):ax E w base v L:=Joins.ownsRow_le h hb
theorem qN (g a b:Nat):((⟨g,0,none⟩:Addr).add a).add b=⟨g,a+b,none⟩:=by
 unfold Addr.add;split
 · split
   · subst_vars;rfl
   · subst_vars;simp
 · split
   · subst_vars;simp
   · simp
theorem bP (g n:Nat):(⟨g,0,none⟩:Addr).add n=⟨g,n,none⟩:=by
 unfold Addr.add;split
 · subst_vars;rfl
 · simp
theorem ax.at (h:ax E w base v L):∃ A c,v= .slice A L.length c∧AtE E w w.heap.size A L:=by
 rcases Joins.ownsRow_forms h with ⟨rfl,h0⟩ | ⟨g,cap,rfl⟩
 · have:L= []:=List.eq_nil_of_length_eq_zero h0;subst this;exact ⟨none,0,rfl,AtE.nil⟩
 · refine ⟨_,cap,rfl,fun k hk=>⟨_,rfl,(World.ownsRow.lt h g rfl).2,fun j hj=>?_⟩⟩;have hf:=E.dX L k hk j hj;have hs:j < (E.C (L[k]'hk)).length:=(by rw [E.len];exact hj);rw [List.getElem?_eq_getElem hs] at hf ⊢;have hc:=World.ownsRow.cells h (g:=g) rfl (k * E.sz+j) _ hf;rw [bP] at hc;rw [qN];exact hc
theorem jf (E:El α) (w:World) (base:Nat) (ty:TypeId) (v:Value) (L:List α) (B:Nat) (A:Option Addr) (n c:Nat) (M:List α) (hn:n=M.length) (hown:ax E w base v L) (hr:AtE E w B A M) (hlen:L.length+M.length≤1000000) (hbase:base≤w.heap.size):
   ∃ v' w',(Builtin.append_ #[E.sl,E.sl] ty #[v, .slice A n c]).run Tryz.prog w= .ok v' w' ∧ax E w' base v' (L ++ M)∧w.grownBy w' v.ownBlock∧(v'.ownBlock=v.ownBlock∨v'.ownBlock=some w.heap.size):=by
 subst hn;have h:=hown;obtain ⟨i0,z,hi,hz,hs,hb,hzs⟩:=E.info;rcases A with _ | ad
 · have hM:M= []:=by
     cases M with
     | nil=>rfl
     | cons s r=>obtain ⟨ad,e,_⟩:=hr 0 (by simp);cases e
   subst hM;refine ⟨v,w,?_,by simpa using hown,World.grownBy.refl w _, .inl rfl⟩;rcases h.2 with ⟨rfl,_⟩ | ⟨g,cap,cur,rfl,_,_,hnc,_⟩
   · simp [Builtin.append_,run_underlying E.hu,sizeOf,typeInfo,hi,Builtin.lenOf,Builtin.firstCells]
   · simp [Builtin.append_,run_underlying E.hu,sizeOf,typeInfo,hi,Builtin.lenOf,Builtin.firstCells,hnc,storeCells]
 · obtain ⟨v',w',hrun,h2,h3,_,h5⟩:=run_append_own_at (P:=Tryz.prog) w base E.sl ty E.e i0 z E.sz E.bs E.hu hi hz hs hb hzs E.pos v L.length _ h ad M.length c (M.flatMap E.C) (E.flat M) (fun j u hu=>by
     have hj:j < M.length * E.sz:=(by have:=(List.getElem?_eq_some_iff.1 hu).1;rwa [E.flat] at this);have hk:j / E.sz < M.length:=Nat.div_lt_of_lt_mul (by rw [Nat.mul_comm];exact hj);have e:j=j / E.sz * E.sz+j % E.sz:=(by rw [Nat.mul_comm];exact (Nat.div_add_mod j E.sz).symm);have hm:j % E.sz < E.sz:=Nat.mod_lt _ E.pos;obtain ⟨ad',e',_,hc⟩:=hr (j / E.sz) hk;cases e';have h2:=hc (j % E.sz) hm;rw [Addr.add_add, ← e] at h2;rw [h2];have h3:=E.dX M (j / E.sz) hk (j % E.sz) hm;rw [← e] at h3;rw [← h3];exact hu) (by
     intro u hu;obtain ⟨t,_,ht⟩:=List.mem_flatMap.1 hu;exact E.one t u ht) (by unfold maxLen;omega) (by
      have h1:(L.length+M.length) * E.bs≤1000000 * 1000:=Nat.mul_le_mul hlen E.small;omega) hbase
   refine ⟨v',w',hrun,?_,h3,h5⟩;show w'.ownsRow base E.e E.sz v' (L ++ M).length ((L ++ M).flatMap E.C);rw [List.length_append,List.flatMap_append];exact h2
theorem aI (E:El α) (w:World) (cs:Array Value) (t:TypeId) (x:α) (h:cs.toList=E.C x) (hB:w.heap.size < B):AtE E (w.alloc (.cells cs t)) B (some ⟨w.heap.size,0,none⟩) [x]:=fun k hk=>by
 have hk0:k=0:=by simpa using hk
 subst hk0;refine ⟨_,rfl,hB,fun j hj=>?_⟩;rw [Nat.zero_mul,qN,(Blk.new w cs t).cell,Nat.zero_add, ← Array.getElem?_toList,h];rfl
theorem aj (E:El α) {ops:Array Oper} {rest:List Oper} {o:Oper} {a:Act} {Q:Exit→Act→World→Prop} (hgd:o.guard=none) (s x:Operand) (ho:o.op= .call { callee:= .builtin .append,args:=#[s,x],argTypes:=#[E.sl,E.sl] })
  (base:Nat) (v:Value) (L:List α) (hs:a.eval s=v) (hown:ax E w base v L) (B:Nat) (A:Option Addr) (n c:Nat) (M:List α) (hx:a.eval x= .slice A n c) (hn:n=M.length) (hr:AtE E w B A M) (hlen:L.length+M.length≤1000000) (hbase:base≤w.heap.size)
  (h:∀ v' w',ax E w' base v' (L ++ M)→w.grownBy w' v.ownBlock→(v'.ownBlock=v.ownBlock∨v'.ownBlock=some w.heap.size)→wpList Tryz.prog ops Q rest (a.put o.dst v') w'):wpList Tryz.prog ops Q (o :: rest) a w:=
 wpList_plain hgd fun K hK=>by
  obtain ⟨v',w',hrun,h2,h3,h4⟩:=jf E w base o.type v L B A n c M hn hown hr hlen hbase;unfold Oper.wp execOp;simp only [ho,resolve,invoke,builtin,Sem.run_bind,Sem.run_pure,Result.andThen_ok,List.map_toArray,List.map_cons,List.map_nil,hs,hx,hrun];exact hK _ _ (h v' w' h2 h3 h4)
theorem aQ (E:El α) {ops:Array Oper} {o:Oper} {a:Act} {K:Act→World→Prop} {Q:Exit→Act→World→Prop} {F:Prop} (hgd:o.guard=none) (s x:Operand) (ho:o.op= .call { callee:= .builtin .append,args:=#[s,x],argTypes:=#[E.sl,E.sl] })
  (base:Nat) (v:Value) (L:List α) (hs:a.eval s=v) (hown:ax E w base v L) (B:Nat) (A:Option Addr) (n c:Nat) (M:List α) (hx:a.eval x= .slice A n c) (hn:n=M.length) (hr:AtE E w B A M) (hlen:L.length+M.length≤1000000) (hbase:base≤w.heap.size)
  (h:∀ v' w',ax E w' base v' (L ++ M)→w.grownBy w' v.ownBlock→(v'.ownBlock=v.ownBlock∨v'.ownBlock=some w.heap.size)→K (a.put o.dst v') w'):
  if Region.wanted o (yielded ops a.tmps)=true then Oper.wp Tryz.prog o a w K Q else F:=by
 have hw:Region.wanted o (yielded ops a.tmps)=true:=by simp [Region.wanted,hgd]
 rw [if_pos hw];obtain ⟨v',w',hrun,h2,h3,h4⟩:=jf E w base o.type v L B A n c M hn hown hr hlen hbase;unfold Oper.wp execOp;simp only [ho,resolve,invoke,builtin,Sem.run_bind,Sem.run_pure,Result.andThen_ok,List.map_toArray,List.map_cons,List.map_nil,hs,hx,hrun];exact h v' w' h2 h3 h4
end
structure En where
 nm:ByteArray
 ino:Int
structure Nd where
 ino:Int
 kind:Int
 mode:Int
 uid:Int
 gid:Int
 par:Int
 tg:ByteArray
 es:List En
structure Dv where
 nx:Int
 ns:List Nd
structure Nm where
 nd:Nd
 A:Option Addr
 c:Nat
structure Dm where
 nx:Int
 xs:List Nm
 A:Option Addr
 c:Nat
abbrev Nm.sl (x:Nm):Value:= .slice x.A x.nd.es.length x.c
abbrev Dm.sl (d:Dm):Value:= .slice d.A d.xs.length d.c
def Dm.dv (d:Dm):Dv:=⟨d.nx,d.xs.map (·.nd)⟩
abbrev ndC (n:Nd) (v:Value):Array Value:=#[.int .i64 n.ino, .int .i64 n.kind, .int .i64 n.mode, .int .i64 n.uid, .int .i64 n.gid, .int .i64 n.par, .string n.tg,v]
abbrev dvC (nx:Int) (v:Value):Array Value:=#[.int .i64 nx,v]
def zNd:Nd:=⟨0,0,0,0,0,0,⟨#[]⟩, []⟩
theorem Tryz.Fe:(Tryz.prog.info? 209).map (fun i=>(i.zero,i.size,i.bytes))=some (some (.agg #[.string ⟨#[]⟩, .int .i64 0]),2,24):=by kernel_rfl
theorem Tryz.Ff:(Tryz.prog.info? 145).map (fun i=>(i.zero,i.size,i.bytes))=some (some (.agg (ndC zNd (.slice none 0 0))),8,88):=by kernel_rfl
theorem Tryz.Fg:(Tryz.prog.info? 142).map (fun i=>(i.zero,i.size,i.bytes))=some (some (.agg (dvC 0 (.slice none 0 0))),2,32):=by kernel_rfl
def EEn:El En where
 C x:= [.string x.nm, .int .i64 x.ino]
 e:=209
 sl:=143
 sz:=2
 bs:=24
 len _:=rfl
 one x u hu:=by simp at hu;rcases hu with rfl | rfl <;> rfl
 pos:=by omega
 small:=by omega
 hu:=Tryz.underlying143
 info:=by
  obtain ⟨i0,h1,h2,h3,h4⟩:=info_parts Tryz.Fe;exact ⟨i0,_,h1,h2,h3,h4,rfl⟩
def ENd:El Nm where
 C x:= [.int .i64 x.nd.ino, .int .i64 x.nd.kind, .int .i64 x.nd.mode, .int .i64 x.nd.uid, .int .i64 x.nd.gid, .int .i64 x.nd.par, .string x.nd.tg, .slice x.A x.nd.es.length x.c]
 e:=145
 sl:=140
 sz:=8
 bs:=88
 len _:=rfl
 one x u hu:=by simp at hu;rcases hu with rfl | rfl | rfl | rfl | rfl | rfl | rfl | rfl <;> rfl
 pos:=by omega
 small:=by omega
 hu:=Tryz.underlying140
 info:=by
  obtain ⟨i0,h1,h2,h3,h4⟩:=info_parts Tryz.Ff;exact ⟨i0,_,h1,h2,h3,h4,rfl⟩
def EDv:El Dm where
 C d:= [.int .i64 d.nx, .slice d.A d.xs.length d.c]
 e:=142
 sl:=26
 sz:=2
 bs:=32
 len _:=rfl
 one x u hu:=by simp at hu;rcases hu with rfl | rfl <;> rfl
 pos:=by omega
 small:=by omega
 hu:=Tryz.underlying26
 info:=by
  obtain ⟨i0,h1,h2,h3,h4⟩:=info_parts Tryz.Fg;exact ⟨i0,_,h1,h2,h3,h4,rfl⟩
def jg (n:Nd):Prop:=n.es.length≤1000∧n.tg.size≤1000∧∀ x∈n.es,x.nm.size≤1000
structure bZ (w:World) (B:Nat) (A:Option Addr) (ds:List Dm):Prop where
 at_:AtE EDv w B A ds
 few:ds.length≤1000
 nodes:∀ d∈ds,AtE ENd w B d.A d.xs∧d.xs.length≤1000
 cu:∀ d∈ds,∀ x∈d.xs,AtE EEn w B x.A x.nd.es∧jg x.nd
section
variable {w w' :World} {B B' :Nat} {A:Option Addr} {ds:List Dm}
theorem bZ.keep (h:bZ w B A ds) (hb:Below B' w w') (hB:B≤B'):bZ w' B A ds:=
 ⟨h.at_.keep hb hB,h.few,fun d hd=>⟨(h.nodes d hd).1.keep hb hB,(h.nodes d hd).2⟩,fun d hd x hx=>⟨(h.cu d hd x hx).1.keep hb hB,(h.cu d hd x hx).2⟩⟩
theorem bZ.more (h:bZ w B A ds) (hB:B≤B'):bZ w B' A ds:=
 ⟨h.at_.more hB,h.few,fun d hd=>⟨(h.nodes d hd).1.more hB,(h.nodes d hd).2⟩,fun d hd x hx=>⟨(h.cu d hd x hx).1.more hB,(h.cu d hd x hx).2⟩⟩
theorem bZ.below (h:bZ w w.heap.size A ds) (hb:Below w.heap.size w w'):bZ w' w'.heap.size A ds:=(h.keep hb (Nat.le_refl _)).more hb.size
end
def fA (f:List Dv) (dev:Int):Option Dv:=if dev < 0 then none else f[dev.toNat]?
def jh (l:List Nd) (ino:Int):Option Nat:=l.findIdx? (fun n=>n.ino == ino)
def fD (f:List Dv) (dev ino:Int):Option Nat:=(fA f dev).bind fun d=>jh d.ns ino
def aD (f:List Dv) (dev ino:Int):Option Nd:=(fA f dev).bind fun d=>d.ns.find? (fun n=>n.ino == ino)
def bM (f:List Dv) (dev ino:Int):Bool:=match aD f dev ino with | some n=>n.kind == 2 | none=>false
def Fh:Option Nat→Int | some i=>i | none=> -1
theorem gy {w:World} {a:Addr} {x:En} (h:∀ j,j < 2→w.cell? (a.add j)=(EEn.C x)[j]?):w.cell? a=some (.string x.nm)∧w.cell? ⟨a.block,a.off+1,none⟩=some (.int .i64 x.ino):=⟨h 0 (by omega),h 1 (by omega)⟩
theorem bO {w:World} {a:Addr} {d:Dm} (h:∀ j,j < 2→w.cell? (a.add j)=(EDv.C d)[j]?):w.cell? a=some (.int .i64 d.nx)∧w.cell? ⟨a.block,a.off+1,none⟩=some (.slice d.A d.xs.length d.c):=⟨h 0 (by omega),h 1 (by omega)⟩
theorem dh {w:World} {a:Addr} {x:Nm} (h:∀ j,j < 8→w.cell? (a.add j)=(ENd.C x)[j]?):
  w.cell? a=some (.int .i64 x.nd.ino)∧w.cell? ⟨a.block,a.off+1,none⟩=some (.int .i64 x.nd.kind)∧w.cell? ⟨a.block,a.off+2,none⟩=some (.int .i64 x.nd.mode)∧w.cell? ⟨a.block,a.off+3,none⟩=some (.int .i64 x.nd.uid)∧w.cell? ⟨a.block,a.off+4,none⟩=some (.int .i64 x.nd.gid)∧w.cell? ⟨a.block,a.off+5,none⟩=some (.int .i64 x.nd.par)∧w.cell? ⟨a.block,a.off+6,none⟩=some (.string x.nd.tg)∧w.cell? ⟨a.block,a.off+7,none⟩=some (.slice x.A x.nd.es.length x.c):=
 ⟨h 0 (by omega),h 1 (by omega),h 2 (by omega),h 3 (by omega),h 4 (by omega),h 5 (by omega),h 6 (by omega),h 7 (by omega)⟩
theorem ji {ds:List Dm} {dev:Int} (h:dev < 0∨(ds.length:Int)≤dev):fA (ds.map Dm.dv) dev=none:=by
 unfold fA;split
 · rfl
 · rw [List.getElem?_eq_none];simp;omega
theorem dJ {ds:List Dm} {dev:Int} (h0:0≤dev) (h1:dev.toNat < ds.length):fA (ds.map Dm.dv) dev=some (ds[dev.toNat].dv):=by
 unfold fA;rw [if_neg (by omega),List.getElem?_map,List.getElem?_eq_getElem h1];rfl
theorem uM {l:List Nd} {ino:Int} (h:∀ k (hk:k < l.length),(l[k].ino == ino)=false):jh l ino=none:=by
 unfold jh;rw [List.findIdx?_eq_none_iff];intro x hx;obtain ⟨k,hk,rfl⟩:=List.getElem_of_mem hx;exact h k hk
theorem uN {l:List Nd} {ino:Int} {k:Nat} (hk:k < l.length) (h:∀ j (hj:j < k),(l[j].ino == ino)=false) (he:(l[k].ino == ino)=true):jh l ino=some k:=by
 unfold jh;rw [List.findIdx?_eq_some_iff_getElem];exact ⟨hk,he,fun j hj=>by rw [h j hj];decide⟩
theorem yR {l:List Nd} {ino:Int} {k:Nat} (h:jh l ino=some k):∃ hk:k < l.length,l.find? (fun n=>n.ino == ino)=some l[k]:=by
 unfold jh at h;obtain ⟨hk,he,hn⟩:=List.findIdx?_eq_some_iff_getElem.1 h;refine ⟨hk,?_⟩;rw [List.find?_eq_some_iff_getElem];exact ⟨he,k,hk,rfl,fun j hj=>by have:=hn j hj;simpa using this⟩
theorem yS {l:List Nd} {ino:Int} (h:jh l ino=none):l.find? (fun n=>n.ino == ino)=none:=by
 unfold jh at h;rw [List.findIdx?_eq_none_iff] at h;rw [List.find?_eq_none];intro x hx;rw [h x hx];decide
theorem bq {q n:Nat} (h:q≤n) (h9:n≤1000000):wrap64 ((q:Int)+1)=(q:Int)+1∧IntKind.i64.wrap ((q:Int)+1)=(q:Int)+1:=⟨IntWalk.wrap64_in _ (by omega),IntWalk.i64_in _ (by omega)⟩
end Go.Proofs.YtollifnnpihfdaaGreatDoor
