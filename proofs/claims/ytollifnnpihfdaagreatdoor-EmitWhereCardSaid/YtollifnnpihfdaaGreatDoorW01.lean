import Derived.Deep.RegionHeld
import Derived.Lib.Hide
import Derived.WalkKit
import Derived.ProofKit
import Derived.OpenShut
import Derived.LaidSub
import Derived.Lib.LaidTab
import Derived.Stop.Joined
import Derived.Lib.SplitLaws
import Derived.Lib.Join
set_option maxRecDepth 100000
set_option maxHeartbeats 64000000
set_option linter.all false
namespace Go
theorem RowKit.Hid.o {p : Prop} (h : RowKit.Hid p) : p := h
theorem RowKit.Hd {p : Prop} (h : p) : RowKit.Hid p := h
theorem Shut.o {p : Prop} (h : Shut p) : p := h
end Go
namespace Go.Proofs.YtollifnnpihfdaaGreatDoor
open Go
theorem gs {p : Prop} (h : p := by go_simp; try (with_reducible rfl)) : p := h
theorem gr {p : Prop} (h : p := by go_simp; first | (with_reducible rfl) | (rw [if_neg (by first | omega | (simp; omega))])) : p := h
theorem tk {P : Program} {ops : Array Oper} {Q : Exit → Act → World → Prop} {md : Region.Mode} {S : World → Prop} {oi : Oper} {fuel : Nat} {listed : Array Bool} {a : Act} {w : World} (hS : S w) (i : Nat) (v : Value)
    (hy : ∀ w, S w → (execOp a.eval oi).run P w = .ok (.value v) w) (h : wpAnyH P md ops Q S fuel (listed.setIfInBounds i true) (a.put oi.dst v) w)
    (hi : ops[i]? = some oi := by rfl) (hs : Region.noSelect ops = true := by kernel_rfl) (hf : Region.free md ops listed i = true := by kernel_rfl) (hr : (Region.ready md ops listed).contains i = true := by kernel_rfl)
    (hQ : ∀ c a w, Q (.panic c) (a.put oi.dst v) w → Q (.panic c) a w := by intro _ _ _ h; exact h) (hw : Region.wanted oi (yielded ops a.tmps) = true := by kernel_rfl) : wpAnyH P md ops Q S (fuel + 1) listed a w :=
  wpAnyH_take hi hs hf hr hQ (Or.inl ⟨hw, hy⟩) hS h
theorem rdy1 {P : Program} {ops : Array Oper} {Q : Exit → Act → World → Prop} {md : Region.Mode} {S : World → Prop} {oi : Oper} {fuel : Nat} {listed : Array Bool} {a : Act} {w : World} (i : Nat)
    (h : ∀ K' : Act → World → Prop, Shut (∀ a w, S w → (S w → wpAnyH P md ops Q S fuel (listed.setIfInBounds i true) a w) → K' a w) → if Region.wanted oi (yielded ops a.tmps) = true then Oper.wp P oi a w K' Q else K' (a.put oi.dst undef) w)
    (hi : ops[i]? = some oi := by rfl) (hr : Region.ready md ops listed = [i] := by kernel_rfl) : wpAnyH P md ops Q S (fuel + 1) listed a w :=
  wpAnyH_ready hr (by simp) (AllReadyH.cons hi h AllReadyH.nil)
end Go.Proofs.YtollifnnpihfdaaGreatDoor
namespace Go.Proofs.YtollifnnpihfdaaGreatDoor
open Go.ChangeShapes Go.WideShapes Go.ChangeAt Go.RowKit
theorem rU {P:Program} {w:World} :∀ {l:List (String×DataW Unit)} {ps:List MemPlace},DataW.LaidVars P w l ps→∀ (i:Nat) (n:String) (d:DataW Unit),l[i]? =some (n,d)→
  ∃ g t cs fuel p,P.globalNamed n=some g∧(P.globals[g]?).map (·.type)=some t∧w.var? P n=some cs∧DataW.trod (fun _=>()) P w 0 (fun _=>true) false fuel t cs.toList=some (d,p)
 | [],_,_,i,n,d,hm=>by simp at hm
 | (n',d') :: r,ps,h,i,n,d,hm=>by
  obtain ⟨g,t,cs,fuel,p,q,h1,h2,h3,h4,h5,_⟩:=h
  match i,hm with
  | 0,hm=>
   simp at hm;obtain ⟨rfl,rfl⟩:=hm;exact ⟨g,t,cs,fuel,p,h1,h2,h3,h4⟩
  | i+1,hm=>exact rU h5 i n d (by simpa using hm)
section
variable {H:Type} {enc:TypeId×Value→H} {P:Program}
theorem iH (hl:laidOutB P=true) {W W' :World} (hb:Below W.heap.size W W'):∀ {ts:List TypeId} {vs:List Value} {ds:List (DataW H)} {ps:List MemPlace},
  (∀ t∈ts,P.readableRec t=true∧t < P.types.size)→DataW.TrodAll enc P W 0 (fun _=>true) true ts vs ds ps→(∀ x∈ps,x.block < W.heap.size)→
  DataW.TrodAll enc P W' 0 (fun b=>decide (b < W.heap.size)) true ts vs ds ps
 | [],vs,ds,ps,_,h,_=>by
  obtain ⟨rfl,rfl,rfl⟩:=trodAll_nil h;exact trodAll_mk0
 | t :: ts,vs,ds,ps,ht,h,hlt=>by
  obtain ⟨v,vs1,d,ds1,p,q,rfl,rfl,rfl,h1,h2⟩:=trodAll_cons h;have hh:=ht t List.mem_cons_self;exact trodAll_cons_mk (Below.trod hl hh.1 hh.2 h1 hb fun x hx=>hlt x (List.mem_append_left _ hx))
   (iH hl hb (fun u hu=>ht u (List.mem_cons_of_mem _ hu)) h2 fun x hx=>hlt x (List.mem_append_right _ hx))
theorem law_mono {f:FuncId} {args:Array Value} {W:World} {Q:Ending→World→Prop} (h:Calls P f args W fun e w' =>e= .returned (.bool true)∧Below W.heap.size W w')
 (k:∀ W',Below W.heap.size W W' →Q (.returned (.bool true)) W'):Calls P f args W Q:=h.mono fun _ w' hh=>hh.1 ▸ k w' hh.2
theorem post_law {f:Func} {s:ChangeSpec} {W W' :World} {args:Array Value} {ds gs:List (DataW H)} {before:List MemPlace} {b:TypeId}
   (hl:laidOutB P=true) (hp:(f.params.toList.all fun t=>P.readableRec t && decide (t < P.types.size))=true) (hr:f.resultTypes=#[b]) (Hw:P.underlying b=some .bool)
   (hW:DataW.Whole enc P f.params.toList s.vars false W args.toList ds gs before) (hv:s.vars= []) (hfn:s.fn H (ds ++ gs)= { results:= [.lit (.bool true)],args:=ds }) (hb:Below W.heap.size W W'):
   s.post enc P f false true false false W args (.bool true) W' :=by
 have hlt:∀ p∈before,p.block < W.heap.size:=fun p hp=>hW.lt p hp;obtain ⟨p,q,hA,hV,rfl,hfz,hnd⟩:=id hW;have hV' :=hV;rw [hv] at hV';obtain ⟨rfl,rfl⟩:=trodVars_none hV';refine ⟨ds, [],_, [],p, [],hW,?_,?_,?_,hb.frame _,fun h=>by cases h⟩
 · rw [hfn,hr];exact trodAll_mk1 (shut_bool Hw _)
 · rw [hfn];exact iH hl hb (fun t ht=>by simpa using List.all_eq_true.1 hp t ht) hA fun x hx=>hlt x (List.mem_append_left _ hx)
 · rw [hfn,hv];rfl
theorem ints_arg {W:World} {base:Nat} {t e:TypeId} {v:Value} {d:DataW H} {p:List MemPlace} (ht:P.underlying t=some (.slice e)) (he:P.underlying e=some (.int .i64)) (hc:P.cellsOf e=1)
   (hv:Value.okWide P W .any base t v) (h:DataW.Trod enc P W 0 (fun _=>true) true t v d p) (hlt:∀ x∈p,x.block < W.heap.size):
   ∃ (A:Option Addr) (n c:Nat),v= .slice A n c∧(n:Int)≤9223372036854775807∧∀ k,k < n→∃ (ad:Addr) (z:Int),A=some ad∧ad.block < W.heap.size∧W.cell? (ad.add k)=some (.int .i64 z)∧ -9223372036854775808≤z∧z≤9223372036854775807:=by
 obtain ⟨a0,len,cap,rfl⟩:=okWide_slice ht hv;obtain ⟨fuel,hf⟩:=h;rcases open_ints ht he hc hf with ⟨hcs,hx⟩ | ⟨a,len',cap',zs,hcs,_,hl,hm,hz,hx,hcell,hwz⟩
 · simp [Value.cells] at hcs;obtain ⟨rfl,rfl,rfl⟩:=hcs;exact ⟨none,0,0,rfl,by omega,fun k hk=>by omega⟩
 · simp [Value.cells] at hcs;obtain ⟨rfl,rfl,rfl⟩:=hcs;simp only [if_true] at hz;unfold maxLen at hm;refine ⟨some a,len,cap,rfl,by omega,fun k hk=>?_⟩;have hkz:k < zs.length:=(by omega);have hw:=bounds_i64 (hwz (zs.getD k 0) (by rw [List.getD_eq_getElem?_getD,List.getElem?_eq_getElem hkz];exact List.getElem_mem hkz));refine ⟨a,zs.getD k 0,rfl,?_,hcell k hkz,hw.1,hw.2⟩;injection hx with _ hp;have hmem:MemPlace.cell a.block (a.off+0)∈p:=by
    rw [hp];unfold MemPlace.row;simp;omega
   exact hlt _ hmem
end
def NoC (c:UInt8) (s:ByteArray):Prop:=∀ b∈s.data.toList,b≠c
def joinL (c:UInt8):List ByteArray→List UInt8
 | []=> []
 | x :: L=>x.data.toList ++ Lib.joinTail [c] (L.map (·.data.toList))
theorem lF (c:UInt8) (x y:ByteArray) (L:List ByteArray):joinL c (x :: y :: L)=x.data.toList ++ c :: joinL c (y :: L):=by
 simp [joinL,Lib.joinTail]
structure IsW (c:UInt8) (s:ByteArray) (L:List ByteArray):Prop where
 ne:L≠ []
 no:∀ x∈L,NoC c x
 eq:s.data.toList=joinL c L
theorem bsz (s:ByteArray):s.data.toList.length=s.size:=by simp
theorem IsW.size {c:UInt8} {s:ByteArray} {L:List ByteArray} (h:IsW c s L):L.length≤s.size+1∧∀ x∈L,x.size≤s.size:=by
 have key:∀ L:List ByteArray,L.length≤(joinL c L).length+1∧∀ x∈L,x.size≤(joinL c L).length:=by
  intro L;induction L with
  | nil=>simp
  | cons x L ih=>
   cases L with
   | nil=>
    refine ⟨by simp,fun z hz=>?_⟩;rw [List.mem_singleton.1 hz, ← bsz];simp [joinL,Lib.joinTail]
   | cons y L=>
    rw [lF];obtain ⟨h1,h2⟩:=ih;refine ⟨by simp at h1 ⊢;omega,?_⟩;intro z hz;rcases List.mem_cons.1 hz with rfl | hz
    · rw [← bsz];simp
    · have:=h2 z hz;simp;omega
 have:=key L;rw [← h.eq,bsz] at this;exact this
def jJ (c:UInt8) (D:List ByteArray):List UInt8:=(D.map (fun d=>d.data.toList ++ [c])).flatten
theorem lG (c:UInt8) (x:ByteArray):∀ D:List ByteArray,jJ c D ++ x.data.toList=joinL c (D ++ [x])
 | []=>by simp [jJ,joinL,Lib.joinTail]
 | [d]=>by simp [jJ,joinL,Lib.joinTail]
 | d :: e :: D=>by
  have ih:=lG c x (e :: D);have h1:jJ c (d :: e :: D)=d.data.toList ++ c :: jJ c (e :: D):=by simp [jJ]
  have h2:d :: e :: D ++ [x]=d :: e :: (D ++ [x]):=rfl;have h3:e :: D ++ [x]=e :: (D ++ [x]):=rfl;rw [h1,h2,lF, ← h3, ← ih];simp
structure gL (c:UInt8) (s:ByteArray) (D:List ByteArray) (m i:Nat):Prop where
 le:m≤i
 top:i≤s.size
 eq:s.data.toList.take m=jJ c D
 no:∀ d∈D,NoC c d
 rest:∀ j,m≤j→j < i→s.data.toList[j]? ≠some c
theorem gL.start (c:UInt8) (s:ByteArray):gL c s [] 0 0:=⟨Nat.le_refl _,Nat.zero_le _,rfl,by simp,fun _ _ h=>absurd h (Nat.not_lt_zero _)⟩
theorem gL.next {c:UInt8} {s:ByteArray} {D:List ByteArray} {m i:Nat} (h:gL c s D m i) (hi:i < s.size) (hc:s[i]≠c):gL c s D m (i+1):=
 ⟨by have:=h.le;omega,hi,h.eq,h.no,fun j h1 h2=>by
  by_cases e:j=i
  · subst e;rw [List.getElem?_eq_getElem (by rw [bsz];exact hi)];intro e;exact hc (Option.some.inj e)
  · exact h.rest j h1 (by omega)⟩
theorem gM (s:ByteArray) (a b:Nat):(s.extract a b).data.toList=(s.data.toList.take b).drop a:=by
 rw [Lib.extract_data];simp [List.drop_take]
theorem gL.piece {c:UInt8} {s:ByteArray} {D:List ByteArray} {m i:Nat} (h:gL c s D m i):NoC c (s.extract m i):=by
 intro b hb e;rw [gM] at hb;obtain ⟨j,hj,he⟩:=List.mem_iff_getElem.1 hb;rw [List.getElem_drop,List.getElem_take] at he;rw [List.length_drop,List.length_take] at hj;refine h.rest (m+j) (by omega) (by omega) ?_;rw [List.getElem?_eq_getElem (by omega),he,e]
theorem gL.cut {c:UInt8} {s:ByteArray} {D:List ByteArray} {m i:Nat} (h:gL c s D m i) (hi:i < s.size) (hc:s[i]=c):gL c s (D ++ [s.extract m i]) (i+1) (i+1):=by
 have hi' :i < s.data.toList.length:=by rw [bsz];exact hi
 refine ⟨Nat.le_refl _,hi,?_,?_,fun j h1 h2=>absurd h2 (by omega)⟩
 · have hg:s.data.toList[i]=c:=hc;have e1:s.data.toList.take (i+1)=s.data.toList.take i ++ [c]:=(by rw [List.take_succ_eq_append_getElem hi',hg]);have e2:s.data.toList.take i=s.data.toList.take m ++ (s.extract m i).data.toList:=by
     rw [gM]
     conv=>lhs;rw [← List.take_append_drop m (s.data.toList.take i),List.take_take,Nat.min_eq_left h.le]
   rw [e1,e2,h.eq];simp [jJ]
 · intro d hd;rcases List.mem_append.1 hd with h1 | h1
   · exact h.no d h1
   · rw [List.mem_singleton.1 h1];exact h.piece
theorem gL.done {c:UInt8} {s:ByteArray} {D:List ByteArray} {m:Nat} (h:gL c s D m s.size):IsW c s (D ++ [s.extract m s.size]):=by
 refine ⟨by simp,?_,?_⟩
 · intro d hd;rcases List.mem_append.1 hd with h1 | h1
   · exact h.no d h1
   · rw [List.mem_singleton.1 h1];exact h.piece
 · rw [← lG, ← h.eq,gM];have:s.data.toList.take s.size=s.data.toList:=List.take_of_length_le (by rw [bsz];exact Nat.le_refl _);rw [this,List.take_append_drop]
theorem gL.count {c:UInt8} {s:ByteArray} {D:List ByteArray} {m i:Nat} (h:gL c s D m i):D.length≤m:=by
 have:∀ D:List ByteArray,D.length≤(jJ c D).length:=by
  intro D;induction D with
  | nil=>simp
  | cons d D ih=>
   have:jJ c (d :: D)=d.data.toList ++ c :: jJ c D:=(by simp [jJ]);rw [this];simp;omega
 have h1:=this D;rw [← h.eq,List.length_take] at h1;omega
open Go
section
variable {P:Program} {ops:Array Oper} {Q:Exit→Act→World→Prop} {md:Region.Mode} {S:World→Prop}
def lI (md:Region.Mode) (ops:Array Oper):Nat→Nat→Nat→Bool
 | 0,r,j=>r == j
 | f+1,r,j=>r == j || ((ops[j]?).map fun o=>o.after.toList.any fun e=>Region.binds md e && lI md ops f r e.on).getD false
def qy (md:Region.Mode) (ops:Array Oper) (p:Nat→Bool) (j:Nat):Bool:=((ops[j]?).map fun o=>o.after.toList.all fun e=> !Region.binds md e || p e.on).getD false
def qz (md:Region.Mode) (ops:Array Oper) (listed:Array Bool) (rem:List Nat):Bool:=
 listed.size == ops.size && rem.all (fun i=>decide (i < ops.size) && !listed.getD i true) &&
 (List.range ops.size).all (fun i=> !listed.getD i false || qy md ops (fun k=>listed.getD k false) i) &&
 rem.all (fun i=>qy md ops (fun k=>decide (k < i) && (listed.getD k false || rem.contains k)) i) &&
 (List.range ops.size).all (fun j=>listed.getD j false || rem.contains j || rem.all (fun r=>lI md ops 8 r j)) && decide rem.Nodup
theorem kv {p:Nat→Bool} {j:Nat} (h:qy md ops p j=true):∃ o,ops[j]? =some o∧∀ e∈o.after,Region.binds md e=true→p e.on=true:=by
 unfold qy at h;cases ho:ops[j]? with
 | none=>rw [ho] at h;cases h
 | some o=>
  rw [ho] at h;refine ⟨o,rfl,fun e he hb=>?_⟩;have h1:=List.all_eq_true.1 h e (Array.mem_toList_iff.2 he);rw [hb] at h1;simpa using h1
theorem mP {listed:Array Bool} (hc:∀ i,listed.getD i false=true→∃ o,ops[i]? =some o∧∀ e∈o.after,Region.binds md e=true→listed.getD e.on false=true):
  ∀ (f r j:Nat),lI md ops f r j=true→listed.getD j false=true→listed.getD r false=true:=by
 intro f;induction f with
 | zero=>intro r j h hj;have:=eq_of_beq h;subst this;exact hj
 | succ f ih=>
  intro r j h hj;unfold lI at h;rcases Bool.or_eq_true_iff.1 h with h | h
  · have:=eq_of_beq h;subst this;exact hj
  · obtain ⟨o,ho,hall⟩:=hc j hj;rw [ho] at h;obtain ⟨e,he,hb⟩:=List.any_eq_true.1 h;obtain ⟨hb1,hb2⟩:=Bool.and_eq_true_iff.1 hb;exact ih r e.on hb2 (hall e (Array.mem_toList_iff.1 he) hb1)
theorem oh {listed:Array Bool} (hc:∀ i,listed.getD i false=true→∃ o,ops[i]? =some o∧∀ e∈o.after,Region.binds md e=true→listed.getD e.on false=true)
   {r j:Nat} (hne:r≠j) (hr:lI md ops 8 r j=true) {o:Oper} (ho:ops[j]? =some o) (hall:∀ e∈o.after,Region.binds md e=true→listed.getD e.on false=true):listed.getD r false=true:=by
 unfold lI at hr;rcases Bool.or_eq_true_iff.1 hr with h | h
 · exact absurd (eq_of_beq h) hne
 · rw [ho] at h;obtain ⟨e,he,hb⟩:=List.any_eq_true.1 h;obtain ⟨hb1,hb2⟩:=Bool.and_eq_true_iff.1 hb;exact mP hc 7 r e.on hb2 (hall e (Array.mem_toList_iff.1 he) hb1)
theorem jV (l:Array Bool) (i j:Nat) (d:Bool):(l.setIfInBounds i true).getD j d=if i=j∧i < l.size then true else l.getD j d:=by
 simp only [Array.getD_eq_getD_getElem?,Array.getElem?_setIfInBounds];by_cases h:i=j
 · subst h;by_cases h2:i < l.size
   · simp [h2]
   · simp [h2]
 · simp [h]
theorem qZ (rem:List Nat) (l:Array Bool) (j:Nat):(rem.foldl (fun l i=>l.setIfInBounds i true) l)[j]? =if j∈rem∧j < l.size then some true else l[j]? :=by
 induction rem generalizing l with
 | nil=>simp
 | cons x rem ih=>
  rw [List.foldl_cons,ih,Array.size_setIfInBounds,Array.getElem?_setIfInBounds];by_cases h1:j < l.size
  · by_cases h2:j∈rem
    · simp [h1,h2]
    · by_cases h3:x=j
      · subst h3;simp [h1,h2]
      · simp [h1,h2,h3,Ne.symm h3]
  · by_cases h3:x=j
    · subst h3;simp [h1]
    · simp [h1,h3]
theorem pq (rem:List Nat) (J:World→Prop) (V:Nat→Value→World→Prop) (A:(Nat→Value)→Act) (bR:Array Bool) (fuel' mQ:Nat) (hfu:mQ=fuel' +rem.length)
  (hok:qz md ops bR rem=true)
  (hput:∀ i o u v,ops[i]? =some o→i∈rem→(A u).put o.dst v=A (fun j=>if j=i then v else u j))
  (hstep:∀ i o u w,ops[i]? =some o→i∈rem→S w→J w→(∀ e∈o.after,Region.binds md e=true→e.on∈rem→V e.on (u e.on) w)→
    wpOp P ops Q i (fun a' w' =>∃ v,a' =(A u).put o.dst v∧V i v w' ∧S w' ∧J w' ∧∀ j∈rem,∀ x,V j x w→V j x w') (A u) w)
  (u0:Nat→Value) (w:World) (hS:S w) (hJ:J w)
  (hend:∀ u w,S w→J w→(∀ i∈rem,V i (u i) w)→wpAnyH P md ops Q S fuel' (rem.foldl (fun l i=>l.setIfInBounds i true) bR) (A u) w):
  wpAnyH P md ops Q S mQ bR (A u0) w:=by
 subst hfu;unfold qz at hok;simp only [Bool.and_eq_true,List.all_eq_true,List.mem_range,Bool.or_eq_true,Bool.not_eq_true',decide_eq_true_eq,beq_iff_eq,List.contains_iff_mem] at hok;obtain ⟨⟨⟨⟨⟨hsz,Je⟩,hcl⟩,hpre⟩,hoth⟩,hnd⟩:=hok
 suffices H:∀ (c:Nat) (left:List Nat) (listed:Array Bool) (u:Nat→Value) (w:World),left.Nodup→left.length=c→(∀ i,i∈left→i∈rem)→listed.size=ops.size→
    (∀ i,listed.getD i false=true→∃ o,ops[i]? =some o∧∀ e∈o.after,Region.binds md e=true→listed.getD e.on false=true)→
    (∀ i,i ∉ rem→listed[i]? =bR[i]?)→(∀ i∈rem,listed.getD i false= !left.contains i)→(∀ i∈rem,i ∉ left→V i (u i) w)→S w→J w→
    wpAnyH P md ops Q S (fuel' +c) listed (A u) w by
  refine H rem.length rem bR u0 w hnd rfl (fun _ h=>h) hsz ?_ (fun _ _=>rfl) ?_ (fun i h1 h2=>absurd h1 h2) hS hJ
  · intro i hi;have hlt:i < ops.size:=by
      rcases Nat.lt_or_ge i ops.size with h | h
      · exact h
      · rw [Array.getD_eq_getD_getElem?,Array.getElem?_eq_none (by omega)] at hi;cases hi
    rcases hcl i hlt with h | h
    · rw [h] at hi;cases hi
    · exact kv h
  · intro i hi;obtain ⟨h1,h2⟩:=Je i hi;rw [show rem.contains i=true from by simpa using hi];have h3:i < bR.size:=(by omega);simp only [Array.getD_eq_getD_getElem?,Array.getElem?_eq_getElem h3,Option.getD_some] at h2 ⊢;simpa using h2
 intro c;induction c with
 | zero=>
  intro left listed u w _ hlen _ hls _ hout hin hV hS hJ;have hl:left= []:=List.eq_nil_of_length_eq_zero hlen;subst hl;have he:listed=rem.foldl (fun l i=>l.setIfInBounds i true) bR:=by
    apply Array.ext_getElem?;intro i;rw [qZ];by_cases hi:i∈rem
    · have h1:=(Je i hi).1;have h2:=hin i hi;have h3:i < listed.size:=(by omega);rw [if_pos ⟨hi,by omega⟩];simp only [Array.getD_eq_getD_getElem?,Array.getElem?_eq_getElem h3,Option.getD_some] at h2 ⊢;rw [h2];rfl
    · rw [if_neg (fun h=>hi h.1)];exact hout i hi
  subst he;exact hend u w hS hJ (fun i hi=>hV i hi (by simp))
 | succ c ih=>
  intro left listed u w hnd hlen hsub hls hcl' hout hin hV hS hJ;have hmin:∃ i,i∈left∧∀ k∈left,i≤k:=by
    have:left≠ []:=(by intro e;subst e;cases hlen);clear hlen hnd hsub hV hin;induction left with
    | nil=>exact absurd rfl this
    | cons x l ih=>
      by_cases hl:l= []
      · subst hl;exact ⟨x,List.mem_cons_self ..,fun k hk=>by rw [List.mem_singleton] at hk;omega⟩
      · obtain ⟨i,h1,h2⟩:=ih hl;by_cases hx:x≤i
        · exact ⟨x,List.mem_cons_self ..,fun k hk=>by rcases List.mem_cons.1 hk with rfl | hk;exact Nat.le_refl _;exact Nat.le_trans hx (h2 k hk)⟩
        · exact ⟨i,List.mem_cons_of_mem _ h1,fun k hk=>by rcases List.mem_cons.1 hk with rfl | hk;omega;exact h2 k hk⟩
  have hun:∀ i∈left,listed.getD i true=false:=fun i hi=>by
    have h1:=hin i (hsub i hi);have h3:i < listed.size:=(by have:=(Je i (hsub i hi)).1;omega);rw [show left.contains i=true from by simpa using hi] at h1;simp only [Array.getD_eq_getD_getElem?,Array.getElem?_eq_getElem h3,Option.getD_some] at h1 ⊢;rw [h1];rfl
  have ED:∃ i,i∈Region.ready md ops listed:=by
    obtain ⟨i,hi,hm⟩:=hmin;obtain ⟨o,ho,hp⟩:=kv (hpre i (hsub i hi));refine ⟨i,mem_ready.2 ⟨hun i hi,o,ho,fun e he hb=>?_⟩⟩;have h1:=hp e he hb;simp only [Bool.and_eq_true,decide_eq_true_eq,Bool.or_eq_true,List.contains_iff_mem] at h1;obtain ⟨hlt,h1⟩:=h1;by_cases hr:e.on∈rem
    · rw [hin _ hr];have:e.on ∉ left:=fun h=>by have:=hm _ h;omega
      simpa using this
    · rcases h1 with h1 | h1
      · rw [Array.getD_eq_getD_getElem?,hout _ hr, ← Array.getD_eq_getD_getElem?];exact h1
      · exact absurd h1 hr
  refine ⟨fun h=>?_,fun i hi=>?_⟩
  · obtain ⟨i,hi⟩:=ED;rw [h] at hi;cases hi
  · obtain ⟨Kw,o,ho,hall⟩:=mem_ready.1 hi;have hlt:i < ops.size:=(Array.getElem?_eq_some_iff.1 ho).1;have hil:i < listed.size:=(by omega);have Ky:listed.getD i false=false:=by
      simp only [Array.getD_eq_getD_getElem?,Array.getElem?_eq_getElem hil,Option.getD_some] at Kw ⊢;exact Kw
    by_cases hir:i∈rem
    · have EE:i∈left:=by
        have h1:=hin i hir;rw [Ky] at h1;simpa using h1.symm
      refine wpOp_mono ?_ (hstep i o u w ho hir hS hJ (fun e he hb hr=>hV _ hr ?_))
      · rintro a' w' ⟨v,rfl,hv,hS',hJ',hk⟩;refine ⟨hS',?_⟩;rw [hput i o u v ho hir];refine ih (left.erase i) (listed.setIfInBounds i true) _ w' (hnd.erase i) (by rw [List.length_erase_of_mem EE,hlen];rfl) (fun k hk' =>hsub k (List.mem_of_mem_erase hk')) (by rw [Array.size_setIfInBounds];exact hls) ?_ ?_ ?_ ?_ hS' hJ'
        · intro k hkk;rw [jV] at hkk;split at hkk
          · rename_i h;obtain ⟨rfl,_⟩:=h;exact ⟨o,ho,fun e he hb=>by rw [jV];split;rfl;exact hall e he hb⟩
          · obtain ⟨o',ho',h'⟩:=hcl' k hkk;exact ⟨o',ho',fun e he hb=>by rw [jV];split;rfl;exact h' e he hb⟩
        · intro k hkr;rw [Array.getElem?_setIfInBounds_ne (fun e=>hkr (by rw [← e];exact hir))];exact hout k hkr
        · intro k hkr;rw [jV];by_cases hik:i=k
          · subst hik;rw [if_pos ⟨rfl,hil⟩];have:i ∉ left.erase i:=fun h=>by
              have:=(List.Nodup.mem_erase_iff hnd).1 h;exact this.1 rfl
            simp [this]
          · rw [if_neg (fun h=>hik h.1),hin k hkr];congr 1;have:k∈left.erase i↔k∈left:=List.mem_erase_of_ne (Ne.symm hik);by_cases hkl:k∈left
            · simp [hkl,this]
            · simp [hkl,this]
        · intro k hkr hkl;by_cases hik:k=i
          · subst hik;simp only [if_true];exact hv
          · simp only [hik,if_false];refine hk k hkr _ (hV k hkr (fun h=>hkl ((List.mem_erase_of_ne hik).2 h)))
      · have h1:=hall e he hb;rw [hin _ hr] at h1;simpa using h1
    · exfalso;obtain ⟨r,hr⟩:∃ r,r∈left:=(by obtain ⟨r,hr,_⟩:=hmin;exact ⟨r,hr⟩);have h0:bR.getD i false=false:=by
        rw [Array.getD_eq_getD_getElem?, ← hout i hir, ← Array.getD_eq_getD_getElem?];exact Ky
      rcases hoth i hlt with (h1 | h1) | h1
      · rw [h0] at h1;cases h1
      · exact hir h1
      · have h2:=oh hcl' (fun e=>hir (by rw [← e];exact hsub r hr)) (h1 r (hsub r hr)) ho hall;rw [hin r (hsub r hr),show left.contains r=true from by simpa using hr] at h2;cases h2
end
section
variable {P:Program} {ops:Array Oper} {Q:Exit→Act→World→Prop} {md:Region.Mode} {S J:World→Prop} {V:Nat→Value→World→Prop} {A:(Nat→Value)→Act} {G:World→World→Prop} {all:List Nat}
def uK (md:Region.Mode) (o:Oper) (j:Nat):Bool:=o.after.toList.any fun e=>Region.binds md e && e.on == j
def EF (ops:Array Oper) (A:(Nat→Value)→Act) (rem:List Nat):Prop:=∀ i∈rem,∀ o,ops[i]? =some o→∀ u v,(A u).put o.dst v=A (fun j=>if j=i then v else u j)
def aW (P:Program) (ops:Array Oper) (Q:Exit→Act→World→Prop) (md:Region.Mode) (S:World→Prop) (J:World→Prop) (V:Nat→Value→World→Prop) (A:(Nat→Value)→Act) (G:World→World→Prop) (all rem:List Nat):Prop:=
 ∀ i∈rem,∀ o,ops[i]? =some o→∀ u w,S w→J w→(∀ j,all.contains j=true→uK md o j=true→V j (u j) w)→∀ K:Act→World→Prop,Shut (∀ v a' w',a' =(A u).put o.dst v→V i v w' →G w w' →K a' w')→
  if Region.wanted o (yielded ops (A u).tmps)=true then Oper.wp P o (A u) w K Q else K ((A u).put o.dst undef) w
theorem aW.nil:aW P ops Q md S J V A G all []:=fun _ h=>by cases h
theorem aW.cons {i:Nat} {o:Oper} {rem:List Nat} (ho:ops[i]? =some o)
   (h:∀ u w,S w→J w→(∀ j,all.contains j=true→uK md o j=true→V j (u j) w)→∀ K:Act→World→Prop,Shut (∀ v a' w',a' =(A u).put o.dst v→V i v w' →G w w' →K a' w')→
    if Region.wanted o (yielded ops (A u).tmps)=true then Oper.wp P o (A u) w K Q else K ((A u).put o.dst undef) w)
   (t:aW P ops Q md S J V A G all rem):aW P ops Q md S J V A G all (i :: rem):=fun k hk o' ho' =>by
 rcases List.mem_cons.1 hk with rfl | hk
 · rw [ho] at ho';injection ho' with ho';subst ho';exact h
 · exact t k hk o' ho'
theorem pE (rem:List Nat) (J:World→Prop) (V:Nat→Value→World→Prop) (A:(Nat→Value)→Act) (G:World→World→Prop) {bR:Array Bool} (fuel' :Nat) {mQ:Nat} (hfu:mQ=fuel' +rem.length)
  (hok:qz md ops bR rem=true) (hG:∀ w w',G w w' →(S w→S w')∧(J w→J w')∧∀ j x,V j x w→V j x w') (hput:EF ops A rem) (hstep:aW P ops Q md S J V A G rem rem)
  {a:Act} (u0:Nat→Value) (ha:a=A u0) {w:World} (hS:S w) (hJ:J w)
  (hend:∀ u w,S w→J w→(∀ i,rem.contains i=true→V i (u i) w)→wpAnyH P md ops Q S fuel' (rem.foldl (fun l i=>l.setIfInBounds i true) bR) (A u) w):
  wpAnyH P md ops Q S mQ bR a w:=by
 subst ha;refine pq rem J V A bR fuel' mQ hfu hok (fun i o u v ho hi=>hput i hi o ho u v) (fun i o u w ho hi hS hJ hpre=>?_) u0 w hS hJ (fun u w hS hJ hV=>hend u w hS hJ (fun i hi=>hV i (by simpa using hi)));refine wpOp_step ho (fun K hK=>hstep i hi o ho u w hS hJ (fun j hj hw=>?_) K (fun v a' w' h0 h1 h3=>hK _ _ ⟨v,h0,h1,(hG w w' h3).1 hS,(hG w w' h3).2.1 hJ,fun j _ x hx=>(hG w w' h3).2.2 j x hx⟩));unfold uK at hw;obtain ⟨e,he,hb⟩:=List.any_eq_true.1 hw;obtain ⟨hb1,hb2⟩:=Bool.and_eq_true_iff.1 hb;have:=eq_of_beq hb2;subst this;exact hpre e (Array.mem_toList_iff.1 he) hb1 (by simpa using hj)
def Kz (u:Nat→Value) (k:Nat) (x:Value) (j:Nat):Value:=if j=k then x else u j
theorem om {u:Nat→Value} {k:Nat} {x:Value} (h:u k=x):Kz u k x=u:=by
 funext j;unfold Kz;split
 · rename_i e;rw [e];exact h.symm
 · rfl
def bJ (a:Act) (ds:List (Nat×Tmp)) (u:Nat→Value):Act:=ds.foldl (fun a p=>a.put (some p.2) (u p.1)) a
theorem bT (a:Act) (p:Nat×Tmp) (ds:List (Nat×Tmp)) (u:Nat→Value):bJ a (p :: ds) u=bJ (a.put (some p.2) (u p.1)) ds u:=rfl
theorem oo (d:Tmp) (v:Value):∀ (ds:List (Nat×Tmp)) (a:Act) (u:Nat→Value),(∀ p∈ds,p.2≠d)→bJ (a.put (some d) v) ds u=(bJ a ds u).put (some d) v
 | [],_,_,_=>rfl
 | p :: ds,a,u,h=>by
  rw [bT,bT, ← oo d v ds _ u (fun q hq=>h q (List.mem_cons_of_mem _ hq)),Act.put_comm];intro e he;injection he with he;subst he;intro h2;injection h2 with h2;exact h p (List.mem_cons_self ..) h2
theorem iD:∀ (ds:List (Nat×Tmp)) (a:Act) (u u' :Nat→Value),(∀ p∈ds,u p.1=u' p.1)→bJ a ds u=bJ a ds u'
 | [],_,_,_,_=>rfl
 | p :: ds,a,u,u',h=>by
  rw [bT,bT,h p (List.mem_cons_self ..)];exact iD ds _ u u' (fun q hq=>h q (List.mem_cons_of_mem _ hq))
theorem uL (a:Act) (d:Tmp) (v v' :Value):(a.put (some d) v).put (some d) v' =a.put (some d) v' :=by
 simp [Act.put]
theorem ou (i:Nat) (d:Tmp) (v:Value):∀ (ds:List (Nat×Tmp)) (a:Act) (u:Nat→Value),(ds.map (·.1)).Nodup→(ds.map (·.2)).Nodup→(i,d)∈ds→(bJ a ds u).put (some d) v=bJ a ds (fun j=>if j=i then v else u j)
 | [],_,_,_,_,h=>by cases h
 | p :: ds,a,u,h1,h2,h=>by
  rw [List.map_cons,List.nodup_cons] at h1 h2;rcases List.mem_cons.1 h with h | h
  · subst h;rw [bT,bT, ← oo d v ds _ u (fun q hq e=>h2.1 (List.mem_map.2 ⟨q,hq,e⟩)),uL,if_pos rfl];exact iD ds _ _ _ (fun q hq=>by rw [if_neg (fun e=>h1.1 (List.mem_map.2 ⟨q,hq,e⟩))])
  · have hne:p.1≠i:=fun e=>h1.1 (List.mem_map.2 ⟨(i,d),h,e.symm⟩);rw [bT,bT,if_neg hne];exact ou i d v ds _ u h1.2 h2.2 h
theorem xN (a:Act) (d:Tmp):a.put (some d) (a.tmps.getD d undef)=a:=by
 obtain ⟨ts,ds⟩:=a;simp only [Act.put];congr 1;apply Array.ext_getElem?;intro k;rw [Array.getElem?_setIfInBounds];by_cases h:d=k
 · subst h;rw [if_pos rfl];by_cases h2:d < ts.size
   · rw [if_pos h2,Array.getD_eq_getD_getElem?,Array.getElem?_eq_getElem h2];rfl
   · rw [if_neg h2,Array.getElem?_eq_none (Nat.le_of_not_lt h2)]
 · rw [if_neg h]
def KA (a:Act) (ds:List (Nat×Tmp)) (i:Nat):Value:=match ds.find? (fun p=>p.1 == i) with | some p=>a.tmps.getD p.2 undef | none=>undef
theorem lJ (a:Act) (u:Nat→Value):∀ ds:List (Nat×Tmp),(∀ p∈ds,u p.1=a.tmps.getD p.2 undef)→bJ a ds u=a
 | [],_=>rfl
 | p :: ds,h=>by
  rw [bT,h p (List.mem_cons_self ..),xN];exact lJ a u ds (fun q hq=>h q (List.mem_cons_of_mem _ hq))
theorem lK:∀ (ds:List (Nat×Tmp)),(ds.map (·.1)).Nodup→∀ p∈ds,ds.find? (fun q=>q.1 == p.1)=some p
 | [],_,_,h=>by cases h
 | x :: ds,h1,p,h=>by
  rw [List.map_cons,List.nodup_cons] at h1;rcases List.mem_cons.1 h with h | h
  · subst h;simp
  · have hne:(x.1 == p.1)=false:=by
     simp only [beq_eq_false_iff_ne,ne_eq];exact fun e=>h1.1 (List.mem_map.2 ⟨p,h,e.symm⟩)
    rw [List.find?_cons,hne];exact lK ds h1.2 p h
def xO (ops:Array Oper) (rem:List Nat) (ds:List (Nat×Tmp)):Bool:=
 rem.all (fun i=>match ops[i]? with | some o=>(match o.dst with | some d=>ds.contains (i,d) | none=>ds.all (fun p=>p.1 != i)) | none=>true) && decide (ds.map (·.1)).Nodup && decide (ds.map (·.2)).Nodup
theorem rq {rem:List Nat} {ds:List (Nat×Tmp)} (h:xO ops rem ds=true) (a:Act):EF ops (bJ a ds) rem:=fun i hi o ho u v=>by
 unfold xO at h;simp only [Bool.and_eq_true,decide_eq_true_eq] at h;obtain ⟨⟨h1,h2⟩,h3⟩:=h;have h4:=List.all_eq_true.1 h1 i hi;rw [ho] at h4;simp only at h4;cases hd:o.dst with
 | some d=>
  rw [hd] at h4;exact ou i d v ds a u h2 h3 (by simpa using h4)
 | none=>
  rw [hd] at h4;refine iD ds a _ _ (fun p hp=>?_);have h5:=List.all_eq_true.1 h4 p hp;rw [if_neg (by simpa using h5)]
theorem bg (rem:List Nat) (ds:List (Nat×Tmp)) (J:World→Prop) (V:Nat→Value→World→Prop) (G:World→World→Prop) {bR:Array Bool} (fuel' :Nat) {mQ:Nat} {a:Act} {w:World} (hS:S w) (hJ:J w) (hfu:mQ=fuel' +rem.length)
  (hok:qz md ops bR rem=true) (hds:xO ops rem ds=true) (hG:∀ w w',G w w' →(S w→S w')∧(J w→J w')∧∀ j x,V j x w→V j x w') (hstep:aW P ops Q md S J V (bJ a ds) G rem rem)
  (hend:∀ u w,S w→J w→(∀ i,rem.contains i=true→V i (u i) w)→wpAnyH P md ops Q S fuel' (rem.foldl (fun l i=>l.setIfInBounds i true) bR) (bJ a ds u) w):
  wpAnyH P md ops Q S mQ bR a w:=by
 refine pE rem J V (bJ a ds) G fuel' hfu hok hG (rq hds a) hstep (KA a ds) (lJ a _ ds (fun p hp=>?_)).symm hS hJ hend;have h1:(ds.map (·.1)).Nodup:=by
  unfold xO at hds;simp only [Bool.and_eq_true,decide_eq_true_eq] at hds;exact hds.1.2
 unfold KA;rw [lK ds h1 p hp]
end
end Go.Proofs.YtollifnnpihfdaaGreatDoor
