import Derived.Test.YtollifnnpihfdaaGreatDoorG01
import Derived.LaidSub
import Derived.Stop.Joined
import Derived.WalkLawsBesides
import Derived.Test.YtollifnnpihfdaaGreatDoorSh
import Derived.Lib.AppendIntMem
import Derived.Deep.RegionHeld3
import Derived.Deep.AppendLies
import Derived.Lib.SplitLaws
set_option maxRecDepth 100000
set_option maxHeartbeats 64000000
set_option linter.all false
namespace Go.Proofs.YtollifnnpihfdaaGreatDoor
open Go.ChangeShapes Go.WideShapes Go.ChangeAt Go.RowKit
theorem yN {P:Program} {w:World} :∀ {l:List (String×DataW Unit)} {ps:List MemPlace},DataW.LaidVars P w l ps→∀ (i:Nat) (n:String) (d:DataW Unit),l[i]? =some (n,d)→
  ∃ g t cs fuel p,P.globalNamed n=some g∧(P.globals[g]?).map (·.type)=some t∧w.var? P n=some cs∧DataW.trod (fun _=>()) P w 0 (fun _=>true) false fuel t cs.toList=some (d,p)
 | [],_,_,i,n,d,hm=>by simp at hm
 | (n',d') :: r,ps,h,i,n,d,hm=>by
  obtain ⟨g,t,cs,fuel,p,q,h1,h2,h3,h4,h5,_⟩:=h
  match i,hm with
  | 0,hm=>
   simp at hm;obtain ⟨rfl,rfl⟩:=hm;exact ⟨g,t,cs,fuel,p,h1,h2,h3,h4⟩
  | i+1,hm=>exact yN h5 i n d (by simpa using hm)
section
variable {H:Type} {enc:TypeId×Value→H} {P:Program}
theorem jS (hl:laidOutB P=true) {W W' :World} (hb:Below W.heap.size W W'):∀ {ts:List TypeId} {vs:List Value} {ds:List (DataW H)} {ps:List MemPlace},
  (∀ t∈ts,P.readableRec t=true∧t < P.types.size)→DataW.TrodAll enc P W 0 (fun _=>true) true ts vs ds ps→(∀ x∈ps,x.block < W.heap.size)→
  DataW.TrodAll enc P W' 0 (fun b=>decide (b < W.heap.size)) true ts vs ds ps
 | [],vs,ds,ps,_,h,_=>by
  obtain ⟨rfl,rfl,rfl⟩:=trodAll_nil h;exact trodAll_mk0
 | t :: ts,vs,ds,ps,ht,h,hlt=>by
  obtain ⟨v,vs1,d,ds1,p,q,rfl,rfl,rfl,h1,h2⟩:=trodAll_cons h;have hh:=ht t List.mem_cons_self;exact trodAll_cons_mk (Below.trod hl hh.1 hh.2 h1 hb fun x hx=>hlt x (List.mem_append_left _ hx))
   (jS hl hb (fun u hu=>ht u (List.mem_cons_of_mem _ hu)) h2 fun x hx=>hlt x (List.mem_append_right _ hx))
theorem law_mono {f:FuncId} {args:Array Value} {W:World} {Q:Ending→World→Prop} (h:Calls P f args W fun e w' =>e= .returned (.bool true)∧Below W.heap.size W w')
 (k:∀ W',Below W.heap.size W W' →Q (.returned (.bool true)) W'):Calls P f args W Q:=h.mono fun _ w' hh=>hh.1 ▸ k w' hh.2
theorem post_law {f:Func} {s:ChangeSpec} {W W' :World} {args:Array Value} {ds gs:List (DataW H)} {before:List MemPlace} {b:TypeId}
   (hl:laidOutB P=true) (hp:(f.params.toList.all fun t=>P.readableRec t && decide (t < P.types.size))=true) (hr:f.resultTypes=#[b]) (NH:P.underlying b=some .bool)
   (hW:DataW.Whole enc P f.params.toList s.vars false W args.toList ds gs before) (hv:s.vars= []) (hfn:s.fn H (ds ++ gs)= { results:= [.lit (.bool true)],args:=ds }) (hb:Below W.heap.size W W'):
   s.post enc P f false true false false W args (.bool true) W' :=by
 have hlt:∀ p∈before,p.block < W.heap.size:=fun p hp=>hW.lt p hp;obtain ⟨p,q,hA,hV,rfl,hfz,hnd⟩:=id hW;have hV' :=hV;rw [hv] at hV';obtain ⟨rfl,rfl⟩:=trodVars_none hV';refine ⟨ds, [],_, [],p, [],hW,?_,?_,?_,hb.frame _,fun h=>by cases h⟩
 · rw [hfn,hr];exact trodAll_mk1 (shut_bool NH _)
 · rw [hfn];exact jS hl hb (fun t ht=>by simpa using List.all_eq_true.1 hp t ht) hA fun x hx=>hlt x (List.mem_append_left _ hx)
 · rw [hfn,hv];rfl
theorem ints_arg {W:World} {base:Nat} {t e:TypeId} {v:Value} {d:DataW H} {p:List MemPlace} (ht:P.underlying t=some (.slice e)) (he:P.underlying e=some (.int .i64)) (hc:P.cellsOf e=1)
   (hv:Value.okWide P W .any base t v) (h:DataW.Trod enc P W 0 (fun _=>true) true t v d p) (hlt:∀ x∈p,x.block < W.heap.size):
   ∃ (A:Option Addr) (n c:Nat),v= .slice A n c∧(n:Int)≤9223372036854775807∧∀ k,k < n→∃ (ad:Addr) (z:Int),A=some ad∧ad.block < W.heap.size∧W.cell? (ad.add k)=some (.int .i64 z)∧ -9223372036854775808≤z∧z≤9223372036854775807:=by
 obtain ⟨a0,len,cap,rfl⟩:=okWide_slice ht hv;obtain ⟨fuel,hf⟩:=h;rcases open_ints ht he hc hf with ⟨hcs,hx⟩ | ⟨a,len',cap',zs,hcs,_,hl,hm,hz,hx,hcell,hwz⟩
 · simp [Value.cells] at hcs;obtain ⟨rfl,rfl,rfl⟩:=hcs;exact ⟨none,0,0,rfl,by omega,fun k hk=>by omega⟩
 · simp [Value.cells] at hcs;obtain ⟨rfl,rfl,rfl⟩:=hcs;simp only [if_true] at hz;unfold maxLen at hm;refine ⟨some a,len,cap,rfl,by omega,fun k hk=>?_⟩;have hkz:k < zs.length:=(by omega);have hw:=bounds_i64 (hwz (zs.getD k 0) (by rw [List.getD_eq_getElem?_getD,List.getElem?_eq_getElem hkz];exact List.getElem_mem hkz));refine ⟨a,zs.getD k 0,rfl,?_,hcell k hkz,hw.1,hw.2⟩;injection hx with _ hp;have hmem:MemPlace.cell a.block (a.off+0)∈p:=by
    rw [hp];unfold MemPlace.row;simp;omega
   exact hlt _ hmem
end
def JC:List ByteArray:= [⟨#[]⟩,⟨#[112,105,100]⟩,⟨#[112,112,105,100]⟩,⟨#[117,105,100]⟩,⟨#[101,117,105,100]⟩,⟨#[103,105,100]⟩,⟨#[101,103,105,100]⟩,⟨#[97,117,105,100]⟩,⟨#[115,101,115]⟩,⟨#[97,48]⟩,⟨#[97,49]⟩,⟨#[97,50]⟩,⟨#[97,51]⟩,⟨#[101,120,101]⟩,⟨#[99,111,109,109]⟩,⟨#[101,120,105,116]⟩,⟨#[115,117,99,99,101,115,115]⟩,⟨#[105,110,111,100,101]⟩,⟨#[100,101,118]⟩,⟨#[111,98,106,95,117,105,100]⟩,⟨#[111,98,106,95,103,105,100]⟩,⟨#[107,105,110,100]⟩,⟨#[116,121,112,101]⟩]
def vW (k:Nat):ByteArray:=JC.getD k ⟨#[]⟩
def opL:List ByteArray:= [⟨#[]⟩,⟨#[61]⟩,⟨#[33,61]⟩,⟨#[60]⟩,⟨#[60,61]⟩,⟨#[62]⟩,⟨#[62,61]⟩,⟨#[38]⟩,⟨#[38,61]⟩]
def opN (k:Nat):ByteArray:=opL.getD k ⟨#[]⟩
def yT (f:Int):Bool:=decide ((1≤f∧f≤8)∨f=13∨f=14)
def dS (l f:Int):Bool:=
 if l=1∨l=4 then yT f
 else if l=2 then decide (1≤f∧f≤14)
 else if l=3 then decide (1≤f∧f≤21)
 else if l=5 then yT f || decide (f=22)
 else false
def bI (f:Int):Bool:=decide (f=13∨f=14)
def dU (f:Int):Bool:=decide ((3≤f∧f≤7)∨f=19∨f=20)
def dA (f:Int):Bool:=decide (17≤f∧f≤21)
def ai (fd op nu:Int) (tx:ByteArray) (ot l:Int):Int:=
 if dS l fd=false then 120
 else if ot≠0∧(dS l ot=false∨dU fd=false∨dU ot=false) then 120
 else if op < 1∨8 < op then 121
 else if 2 < op∧(bI fd=true∨ot≠0) then 121
 else if ot≠0∧(nu≠0∨tx.size≠0) then 122
 else if bI fd=true∧(nu≠0∨tx.size=0∨640 < tx.size) then 122
 else if bI fd=false∧tx.size≠0 then 122
 else 0
theorem mG {l f:Int} (h:dS l f=true):1≤f∧f≤22:=by
 unfold dS yT at h;split at h
 · simp at h;omega
 · split at h
   · simp at h;omega
   · split at h
     · simp at h;omega
     · split at h
       · simp at h;omega
       · cases h
theorem jk {f:Int} (h:dU f=true):bI f=false:=by
 unfold dU at h;unfold bI;simp at *;omega
theorem mH {fd op nu:Int} {tx:ByteArray} {ot l:Int} (h:ai fd op nu tx ot l=0):dS l fd=true∧(ot=0∨(dS l ot=true∧dU fd=true∧dU ot=true))∧(1≤op∧op≤8)∧(op≤2∨(bI fd=false∧ot=0))∧(ot=0∨(nu=0∧tx.size=0))∧(bI fd=false∨(nu=0∧tx.size≠0∧tx.size≤640))∧(bI fd=true∨tx.size=0):=by
 unfold ai at h;split at h
 · cases h
 · split at h
   · cases h
   · split at h
     · cases h
     · split at h
       · cases h
       · split at h
         · cases h
         · split at h
           · cases h
           · split at h
             · cases h
             · rename_i h1 h2 h3 h4 h5 h6 h7;cases hx:dS l fd <;> cases hy:bI fd <;> cases hz:dS l ot <;> cases hu:dU fd <;> cases hv:dU ot <;> by_cases hot:ot=0 <;> by_cases hnu:nu=0 <;> simp_all <;> omega
theorem aX {x y:Bool} (h:x=y):Ending.returned (.bool x)=Ending.returned (.bool y):=by rw [h]
attribute [local irreducible] vW opN
theorem yU (f:Int) (w:World):Calls Tryz.prog 183 #[.int .i64 f] w fun e w' =>e= .returned (.bool (bI f))∧w=w' :=by
 go_in;go_wp2_with fail;all_goals (go_ret;exact ⟨aX (by unfold bI;((try simp only [beq_iff_eq,beq_eq_false_iff_ne,ne_eq] at *);rw [Bool.eq_iff_iff];simp <;> omega)),rfl⟩)
theorem yV (f:Int) (w:World):Calls Tryz.prog 191 #[.int .i64 f] w fun e w' =>e= .returned (.bool (bI f))∧w=w' :=by
 go_in;go_wp2_with fail;all_goals (go_ret;exact ⟨aX (by unfold bI;((try simp only [beq_iff_eq,beq_eq_false_iff_ne,ne_eq] at *);rw [Bool.eq_iff_iff];simp <;> omega)),rfl⟩)
theorem yX (f:Int) (w:World):Calls Tryz.prog 242 #[.int .i64 f] w fun e w' =>e= .returned (.bool (dU f))∧w=w' :=by
 go_in;go_wp2_with fail;all_goals (go_ret;exact ⟨aX (by unfold dU;((try simp only [beq_iff_eq,beq_eq_false_iff_ne,ne_eq] at *);rw [Bool.eq_iff_iff];simp <;> omega)),rfl⟩)
theorem yY (f:Int) (w:World):Calls Tryz.prog 218 #[.int .i64 f] w fun e w' =>e= .returned (.bool (dU f))∧w=w' :=by
 go_in;go_wp2_with fail;all_goals (go_ret;exact ⟨aX (by unfold dU;((try simp only [beq_iff_eq,beq_eq_false_iff_ne,ne_eq] at *);rw [Bool.eq_iff_iff];simp <;> omega)),rfl⟩)
theorem Fs (f:Int) (w:World):Calls Tryz.prog 275 #[.int .i64 f] w fun e w' =>e= .returned (.bool (dA f))∧w=w' :=by
 go_in;go_wp2_with fail;all_goals (go_ret;exact ⟨aX (by unfold dA;((try simp only [beq_iff_eq,beq_eq_false_iff_ne,ne_eq] at *);rw [Bool.eq_iff_iff];simp <;> omega)),rfl⟩)
theorem Fu (f:Int) (w:World):Calls Tryz.prog 236 #[.int .i64 f] w fun e w' =>e= .returned (.bool (dA f))∧w=w' :=by
 go_in;go_wp2_with fail;all_goals (go_ret;exact ⟨aX (by unfold dA;((try simp only [beq_iff_eq,beq_eq_false_iff_ne,ne_eq] at *);rw [Bool.eq_iff_iff];simp <;> omega)),rfl⟩)
theorem yZ (l f:Int) (w:World):Calls Tryz.prog 241 #[.int .i64 l, .int .i64 f] w fun e w' =>e= .returned (.bool (dS l f))∧w=w' :=by
 go_in;go_wp2_with fail;all_goals (go_ret;exact ⟨aX (by (try simp only [beq_iff_eq,beq_eq_false_iff_ne,ne_eq] at *);unfold dS yT;(repeat' split) <;> first | rfl | ((try simp only [beq_iff_eq,beq_eq_false_iff_ne,ne_eq] at *);rw [Bool.eq_iff_iff];simp <;> omega) | (exfalso;omega)),rfl⟩)
theorem y8 (l f:Int) (w:World):Calls Tryz.prog 217 #[.int .i64 l, .int .i64 f] w fun e w' =>e= .returned (.bool (dS l f))∧w=w' :=by
 go_in;go_wp2_with fail;all_goals (go_ret;exact ⟨aX (by (try simp only [beq_iff_eq,beq_eq_false_iff_ne,ne_eq] at *);unfold dS yT;(repeat' split) <;> first | rfl | ((try simp only [beq_iff_eq,beq_eq_false_iff_ne,ne_eq] at *);rw [Bool.eq_iff_iff];simp <;> omega) | (exfalso;omega)),rfl⟩)
end Go.Proofs.YtollifnnpihfdaaGreatDoor
namespace Go.Proofs.YtollifnnpihfdaaGreatDoor
open Go.RowKit
def Qu (n:Int):ByteArray:=⟨(Lib.itoa n).toArray⟩
theorem jY {a b:ByteArray} (h:a.data.toList=b.data.toList):a=b:=ByteArray.ext (Array.toList_inj.1 h)
def nZ (c:UInt8):Int:=if 48≤c.toNat∧c.toNat≤57 then c.toNat - 48 else if 97≤c.toNat∧c.toNat≤102 then c.toNat - 87 else -1
def NN (a b:UInt8):UInt8:=UInt8.ofNat (16 * (nZ a).toNat+(nZ b).toNat)
def rM:List UInt8→Option (List UInt8)
 | []=>some []
 | [_]=>none
 | a :: b :: r=>if nZ a < 0∨nZ b < 0 then none else (rM r).map (NN a b :: ·)
def MZ (fd op nu:Int) (tx:ByteArray) (ot:Int):Int:=if ai fd op nu tx ot 3≠0∧ai fd op nu tx ot 5=0 then 0 else ai fd op nu tx ot 3
def Sb (fd nu:Int) (tx:ByteArray) (ot:Int):ByteArray:=if ot≠0 then vW ot.toNat else if bI fd=true then nX tx else Qu nu
def JE (fd op nu:Int) (tx:ByteArray) (ot:Int):ByteArray:=if MZ fd op nu tx ot=0 then vW fd.toNat ++ opN op.toNat ++ Sb fd nu tx ot else ⟨#[]⟩
def NoC (c:UInt8) (s:ByteArray):Prop:=∀ b∈s.data.toList,b≠c
def joinL (c:UInt8):List ByteArray→List UInt8
 | []=> []
 | x :: L=>x.data.toList ++ Lib.joinTail [c] (L.map (·.data.toList))
theorem cZ (c:UInt8) (x y:ByteArray) (L:List ByteArray):joinL c (x :: y :: L)=x.data.toList ++ c :: joinL c (y :: L):=by
 simp [joinL,Lib.joinTail]
structure IsW (c:UInt8) (s:ByteArray) (L:List ByteArray):Prop where
 ne:L≠ []
 no:∀ x∈L,NoC c x
 eq:s.data.toList=joinL c L
theorem pU {c:UInt8} :∀ {a b t u:List UInt8},(∀ x∈a,x≠c)→(∀ x∈b,x≠c)→(t= []∨∃ r,t=c :: r)→(u= []∨∃ r,u=c :: r)→a ++ t=b ++ u→a=b∧t=u
 | [], [],t,u,_,_,_,_,h=>by simpa using h
 | [],y :: b,t,u,_,hb,ht,_,h=>by
  rcases ht with rfl | ⟨r,rfl⟩
  · simp at h
  · simp at h;exact absurd h.1.symm (hb y List.mem_cons_self)
 | x :: a, [],t,u,ha,_,_,hu,h=>by
  rcases hu with rfl | ⟨r,rfl⟩
  · simp at h
  · simp at h;exact absurd h.1 (ha x List.mem_cons_self)
 | x :: a,y :: b,t,u,ha,hb,ht,hu,h=>by
  simp only [List.cons_append,List.cons.injEq] at h;obtain ⟨h1,h2⟩:=pU (fun c hc=>ha c (List.mem_cons_of_mem _ hc)) (fun c hc=>hb c (List.mem_cons_of_mem _ hc)) ht hu h.2;exact ⟨by rw [h.1,h1],h2⟩
theorem bsz (s:ByteArray):s.data.toList.length=s.size:=by simp
theorem data_inj {a b:ByteArray} (h:a.data.toList=b.data.toList):a=b:=by
 cases a;cases b;simp at h;exact congrArg _ h
theorem rT {c:UInt8} :∀ {L M:List ByteArray},L≠ []→M≠ []→(∀ x∈L,NoC c x)→(∀ x∈M,NoC c x)→joinL c L=joinL c M→L=M
 | [],_,h,_,_,_,_=>absurd rfl h
 | _ :: _, [],_,h,_,_,_=>absurd rfl h
 | [x], [y],_,_,_,_,h=>by
  have h' :x.data.toList=y.data.toList:=by simpa [joinL,Lib.joinTail] using h
  rw [data_inj h']
 | [x],y :: z :: M,_,_,hx,hy,h=>by
  rw [cZ] at h;have h' :x.data.toList ++ []=y.data.toList ++ c :: joinL c (z :: M):=by rw [← h];simp [joinL,Lib.joinTail]
  have:=(pU (hx x (by simp)) (hy y (by simp)) (.inl rfl) (.inr ⟨_,rfl⟩) h').2;cases this
 | x :: z :: L, [y],_,_,hx,hy,h=>by
  rw [cZ] at h;have h' :x.data.toList ++ c :: joinL c (z :: L)=y.data.toList ++ []:=by rw [h];simp [joinL,Lib.joinTail]
  have:=(pU (hx x (by simp)) (hy y (by simp)) (.inr ⟨_,rfl⟩) (.inl rfl) h').2;cases this
 | x :: x2 :: L,y :: y2 :: M,_,_,hx,hy,h=>by
  rw [cZ,cZ] at h;obtain ⟨h1,h2⟩:=pU (hx x (by simp)) (hy y (by simp)) (.inr ⟨_,rfl⟩) (.inr ⟨_,rfl⟩) h;simp only [List.cons.injEq,true_and] at h2;rw [data_inj h1,rT (by simp) (by simp) (fun s hs=>hx s (List.mem_cons_of_mem _ hs)) (fun s hs=>hy s (List.mem_cons_of_mem _ hs)) h2]
theorem IsW.unique {c:UInt8} {s:ByteArray} {L M:List ByteArray} (h:IsW c s L) (k:IsW c s M):L=M:=
 rT h.ne k.ne h.no k.no (h.eq.symm.trans k.eq)
theorem IsW.size {c:UInt8} {s:ByteArray} {L:List ByteArray} (h:IsW c s L):L.length≤s.size+1∧∀ x∈L,x.size≤s.size:=by
 have key:∀ L:List ByteArray,L.length≤(joinL c L).length+1∧∀ x∈L,x.size≤(joinL c L).length:=by
  intro L;induction L with
  | nil=>simp
  | cons x L ih=>
   cases L with
   | nil=>
    refine ⟨by simp,fun z hz=>?_⟩;rw [List.mem_singleton.1 hz, ← bsz];simp [joinL,Lib.joinTail]
   | cons y L=>
    rw [cZ];obtain ⟨h1,h2⟩:=ih;refine ⟨by simp at h1 ⊢;omega,?_⟩;intro z hz;rcases List.mem_cons.1 hz with rfl | hz
    · rw [← bsz];simp
    · have:=h2 z hz;simp;omega
 have:=key L;rw [← h.eq,bsz] at this;exact this
theorem rU (c:UInt8):∀ (k:Nat) (s:ByteArray),Lib.countB s ⟨#[c]⟩=k→IsW c s (Lib.splitB ⟨#[c]⟩ 0 k s)
 | 0,s,h=>by
  rw [Lib.splitB_zero];refine ⟨by simp,?_,by simp [joinL,Lib.joinTail]⟩;intro x hx;rw [List.mem_singleton.1 hx];intro b hb e;subst e;have h0:Lib.count s.data.toList [b]=0:=h;rw [Lib.count_one] at h0;have:=List.count_pos_iff.2 hb;omega
 | k+1,s,h=>by
  rcases Lib.index_spec s.data.toList [c] with ⟨h1,_⟩ | ⟨i,h1,h2,h3,h4⟩
  · have:=Lib.countB_miss s ⟨#[c]⟩ h1;omega
  · have hk:Lib.countB (s.extract (i+1) s.size) ⟨#[c]⟩=k:=by
      have:=Lib.countB_hit s ⟨#[c]⟩ i (Nat.le_refl 1) h1;have e:(⟨#[c]⟩:ByteArray).size=1:=rfl;rw [e] at this;omega
    have hc:s.data.toList[i]? =some c:=Lib.occAt_head rfl h3;rw [Lib.splitB_hit _ _ _ _ i h1];have e1:(⟨#[c]⟩:ByteArray).size=1:=rfl;rw [e1,Nat.add_zero];have ih:=rU c k _ hk;have hi:i < s.data.toList.length:=by
      by_cases hlt:i < s.data.toList.length
      · exact hlt
      · rw [List.getElem?_eq_none (by omega)] at hc;cases hc
    have hlow:∀ b∈s.data.toList.take i,b≠c:=by
      intro b hb e;obtain ⟨j,hj,he⟩:=List.mem_iff_getElem.1 hb;rw [List.length_take] at hj;rw [List.getElem_take] at he;have hjl:j < i:=Nat.lt_of_lt_of_le hj (Nat.min_le_left _ _);have:=h4 j hjl;have hjs:j+1≤s.data.toList.length:=(by omega);rw [Lib.occAt_iff_take _ _ _ hjs] at this;rw [List.drop_eq_getElem_cons (by omega)] at this;simp [he,e] at this
    refine ⟨by simp,?_,?_⟩
    · intro x hx;rcases List.mem_cons.1 hx with rfl | hx
      · intro b hb;rw [Lib.extract_from_zero] at hb;exact hlow b hb
      · exact ih.no x hx
    · obtain ⟨y,M,hy⟩:∃ y M,Lib.splitB ⟨#[c]⟩ 0 k (s.extract (i+1) s.size)=y :: M:=by
        cases hm:Lib.splitB ⟨#[c]⟩ 0 k (s.extract (i+1) s.size) with
        | nil=>exact absurd hm ih.ne
        | cons y M=>exact ⟨y,M,rfl⟩
      rw [hy,cZ, ← hy, ← ih.eq,Lib.extract_from_zero,Lib.extract_to_end];have hg:s.data.toList[i]=c:=by rw [List.getElem?_eq_getElem hi] at hc;exact Option.some.inj hc
      conv=>lhs;rw [← List.take_append_drop i s.data.toList,List.drop_eq_getElem_cons hi,hg]
def lQ (c:UInt8) (D:List ByteArray):List UInt8:=(D.map (fun d=>d.data.toList ++ [c])).flatten
theorem ou (c:UInt8) (x:ByteArray):∀ D:List ByteArray,lQ c D ++ x.data.toList=joinL c (D ++ [x])
 | []=>by simp [lQ,joinL,Lib.joinTail]
 | [d]=>by simp [lQ,joinL,Lib.joinTail]
 | d :: e :: D=>by
  have ih:=ou c x (e :: D);have h1:lQ c (d :: e :: D)=d.data.toList ++ c :: lQ c (e :: D):=by simp [lQ]
  have h2:d :: e :: D ++ [x]=d :: e :: (D ++ [x]):=rfl;have h3:e :: D ++ [x]=e :: (D ++ [x]):=rfl;rw [h1,h2,cZ, ← h3, ← ih];simp
structure jb (c:UInt8) (s:ByteArray) (D:List ByteArray) (m i:Nat):Prop where
 le:m≤i
 top:i≤s.size
 eq:s.data.toList.take m=lQ c D
 no:∀ d∈D,NoC c d
 rest:∀ j,m≤j→j < i→s.data.toList[j]? ≠some c
theorem jb.start (c:UInt8) (s:ByteArray):jb c s [] 0 0:=⟨Nat.le_refl _,Nat.zero_le _,rfl,by simp,fun _ _ h=>absurd h (Nat.not_lt_zero _)⟩
theorem jb.next {c:UInt8} {s:ByteArray} {D:List ByteArray} {m i:Nat} (h:jb c s D m i) (hi:i < s.size) (hc:s[i]≠c):jb c s D m (i+1):=
 ⟨by have:=h.le;omega,hi,h.eq,h.no,fun j h1 h2=>by
  by_cases e:j=i
  · subst e;rw [List.getElem?_eq_getElem (by rw [bsz];exact hi)];intro e;exact hc (Option.some.inj e)
  · exact h.rest j h1 (by omega)⟩
theorem gM (s:ByteArray) (a b:Nat):(s.extract a b).data.toList=(s.data.toList.take b).drop a:=by
 rw [Lib.extract_data];simp [List.drop_take]
theorem jb.piece {c:UInt8} {s:ByteArray} {D:List ByteArray} {m i:Nat} (h:jb c s D m i):NoC c (s.extract m i):=by
 intro b hb e;rw [gM] at hb;obtain ⟨j,hj,he⟩:=List.mem_iff_getElem.1 hb;rw [List.getElem_drop,List.getElem_take] at he;rw [List.length_drop,List.length_take] at hj;refine h.rest (m+j) (by omega) (by omega) ?_;rw [List.getElem?_eq_getElem (by omega),he,e]
theorem jb.cut {c:UInt8} {s:ByteArray} {D:List ByteArray} {m i:Nat} (h:jb c s D m i) (hi:i < s.size) (hc:s[i]=c):jb c s (D ++ [s.extract m i]) (i+1) (i+1):=by
 have hi' :i < s.data.toList.length:=by rw [bsz];exact hi
 refine ⟨Nat.le_refl _,hi,?_,?_,fun j h1 h2=>absurd h2 (by omega)⟩
 · have hg:s.data.toList[i]=c:=hc;have e1:s.data.toList.take (i+1)=s.data.toList.take i ++ [c]:=(by rw [List.take_succ_eq_append_getElem hi',hg]);have e2:s.data.toList.take i=s.data.toList.take m ++ (s.extract m i).data.toList:=by
     rw [gM]
     conv=>lhs;rw [← List.take_append_drop m (s.data.toList.take i),List.take_take,Nat.min_eq_left h.le]
   rw [e1,e2,h.eq];simp [lQ]
 · intro d hd;rcases List.mem_append.1 hd with h1 | h1
   · exact h.no d h1
   · rw [List.mem_singleton.1 h1];exact h.piece
theorem jb.done {c:UInt8} {s:ByteArray} {D:List ByteArray} {m:Nat} (h:jb c s D m s.size):IsW c s (D ++ [s.extract m s.size]):=by
 refine ⟨by simp,?_,?_⟩
 · intro d hd;rcases List.mem_append.1 hd with h1 | h1
   · exact h.no d h1
   · rw [List.mem_singleton.1 h1];exact h.piece
 · rw [← ou, ← h.eq,gM];have:s.data.toList.take s.size=s.data.toList:=List.take_of_length_le (by rw [bsz];exact Nat.le_refl _);rw [this,List.take_append_drop]
theorem jb.count {c:UInt8} {s:ByteArray} {D:List ByteArray} {m i:Nat} (h:jb c s D m i):D.length≤m:=by
 have:∀ D:List ByteArray,D.length≤(lQ c D).length:=by
  intro D;induction D with
  | nil=>simp
  | cons d D ih=>
   have:lQ c (d :: D)=d.data.toList ++ c :: lQ c D:=(by simp [lQ]);rw [this];simp;omega
 have h1:=this D;rw [← h.eq,List.length_take] at h1;omega
def hasB (m:Nat) (n:Int):Bool:=decide (0≤n) && decide (n < 32) && m.testBit n.toNat
theorem uS (m:Nat) (k:Nat) (hm:m < 18446744073709551616):bits .and .u64 ((m:Int) / 2 ^ k) 1=if m.testBit k then 1 else 0:=by
 have e:(m:Int) / 2 ^ k=((m / 2 ^ k:Nat):Int):=by rw [Int.natCast_ediv,Int.natCast_pow];rfl
 have hlt:m / 2 ^ k < 18446744073709551616:=Nat.lt_of_le_of_lt (Nat.div_le_self _ _) hm;rw [e,show (1:Int)=((1:Nat):Int) from rfl,u64_and_nat _ 1 hlt (by omega)];rw [Nat.and_one_is_mod,Nat.testBit_eq_decide_div_mod_eq];by_cases h:m / 2 ^ k % 2=1
 · simp [h]
 · have:m / 2 ^ k % 2=0:=(by omega);simp [this]
theorem UK (m:Nat) (n:Int) (w:World) (hm:m < 18446744073709551616):
   Calls Tryz.prog 181 #[.int .u64 (m:Int), .int .i64 n] w fun e w' =>e= .returned (.bool (hasB m n))∧w=w' :=by
 have HB:=Hd (uS m n.toNat hm);clear hm;by_cases h0:0≤n
 · by_cases h1:n < 32
   · have HH:=Hd (show hasB m n=m.testBit n.toNat by unfold hasB;simp [h0,h1]);go_in
     go_wp2
     go_ret;refine ⟨CE ?_,rfl⟩;rw [HH.o,HB.o];cases m.testBit n.toNat <;> rfl
   · have H:=Hd (show hasB m n=false by unfold hasB;simp;omega);go_in
     go_wp2
     go_ret;exact ⟨CE H.o.symm,rfl⟩
 · have H:=Hd (show hasB m n=false by unfold hasB;simp;omega);go_in
   go_wp2
   go_ret;exact ⟨CE H.o.symm,rfl⟩
theorem Sm (m:Nat) (n:Int) (w:World) (hm:m < 18446744073709551616):
   Calls Tryz.prog 172 #[.int .u64 (m:Int), .int .i64 n] w fun e w' =>e= .returned (.bool (hasB m n))∧w=w' :=by
 have HB:=Hd (uS m n.toNat hm);clear hm;by_cases h0:0≤n
 · by_cases h1:n < 32
   · have HH:=Hd (show hasB m n=m.testBit n.toNat by unfold hasB;simp [h0,h1]);go_in
     go_wp2
     go_ret;refine ⟨CE ?_,rfl⟩;rw [HH.o,HB.o];cases m.testBit n.toNat <;> rfl
   · have H:=Hd (show hasB m n=false by unfold hasB;simp;omega);go_in
     go_wp2
     go_ret;exact ⟨CE H.o.symm,rfl⟩
 · have H:=Hd (show hasB m n=false by unfold hasB;simp;omega);go_in
   go_wp2
   go_ret;exact ⟨CE H.o.symm,rfl⟩
def mM (m:Nat):Bool:=decide (m < 4294967296)
theorem zl (m:Nat):((m:Int) / 4294967296 == 0)=mM m:=by
 unfold mM;by_cases h:m < 4294967296
 · simp [h];omega
 · simp [h];omega
theorem JO (m:Nat) (w:World):
  Calls Tryz.prog 152 #[.int .u64 (m:Int)] w fun e w' =>e= .returned (.bool (mM m))∧w=w' :=by
 have HV:=Hd (zl m);go_in
 go_wp2
 go_ret;exact ⟨CE HV.o,rfl⟩
def Sn (m n:Nat):Bool:=decide (n < 32) && m.testBit n
def Sq (m k:Nat):List Nat:=(List.range' k (32 - k)).filter (Sn m)
def grp:List Nat→List (Nat×Nat)
 | []=> []
 | a :: l=>match grp l with
  | []=> [(a,a)]
  | (b,c) :: r=>if b=a+1 then (a,c) :: r else (a,a) :: (b,c) :: r
theorem Di (a c:Nat) (l:List Nat) (r:List (Nat×Nat)) (h:grp l=(a+1,c) :: r):grp (a :: l)=(a,c) :: r:=by
 show (match grp l with | []=> [(a,a)] | (b,c) :: r=>if b=a+1 then (a,c) :: r else (a,a) :: (b,c) :: r)=_;rw [h];simp
def NS (p:Nat×Nat):List UInt8:=if p.1 < p.2 then Lib.decDigits p.1 ++ 45 :: Lib.decDigits p.2 else Lib.decDigits p.1
def JP (m:Nat):ByteArray:=
 if m % 4294967296=4294967295 then ⟨#[97,108,108]⟩ else if m % 4294967296=0 then ⟨#[110,111,110,101]⟩
 else ⟨(Lib.join ((grp (Sq m 0)).map NS) [44]).toArray⟩
def Sr (c:UInt8):Bool:=decide (48≤c.toNat) && decide (c.toNat≤57)
def Su (l:List UInt8):Nat:=l.foldl (fun v c=>10 * v+(c.toNat - 48)) 0
def JQ (l:List UInt8):Bool:=decide (1≤l.length) && decide (l.length≤4) && !(l.head? == some 48 && decide (1 < l.length))
def NT (s:ByteArray):Option Nat:=if JQ s.data.toList && s.data.toList.all Sr then some (Su s.data.toList) else none
def fP (c:UInt8) (s:ByteArray):List ByteArray:=Lib.splitB ⟨#[c]⟩ 0 (Lib.countB s ⟨#[c]⟩) s
theorem ow (c:UInt8) (s:ByteArray):IsW c s (fP c s):=rU c _ s rfl
theorem zm {c:UInt8} {s:ByteArray} {L:List ByteArray} (h:IsW c s L):fP c s=L:=(ow c s).unique h
theorem Dj {c:UInt8} {s a b:ByteArray} {L:List ByteArray} (h:s.data.toList=a.data.toList ++ c :: b.data.toList) (ha:NoC c a) (hb:IsW c b L):IsW c s (a :: L):=by
 obtain ⟨h1,h2,h3⟩:=hb;cases L with
 | nil=>exact absurd rfl h1
 | cons y M=>
  refine ⟨by simp,?_,by rw [cZ, ← h3,h]⟩;intro x hx;rcases List.mem_cons.1 hx with rfl | hx
  · exact ha
  · exact h2 x hx
def NU:List ByteArray→Option (Nat×Nat)
 | [x]=>(NT x).map fun n=>(n,n)
 | [x,y]=>match NT x,NT y with
  | some a,some b=>if a≤b then some (a,b) else none
  | _,_=>none
 | _=>none
def NV (s:ByteArray):Option (Nat×Nat):=NU (fP 45 s)
def nums (x:ByteArray):List Nat:=match NV x with
 | some (a,b)=>List.range' a (min (b+1) 32 - a)
 | none=> []
def nsC (c:UInt8):Bool:=c != 0 && c != 47
def dR (s:ByteArray):Bool:=decide (1≤s.size) && decide (s.size≤12) && !(s.toList == [46]) && !(s.toList == [46,46]) && s.data.toList.all nsC
def jC (s:ByteArray):ByteArray:=s.extract 1 s.size
def dL (s:ByteArray):Bool:=s.toList == [47] || (s.data.toList.head? == some 47 && (fP 47 (jC s)).all dR)
def eH (L:List ByteArray):ByteArray:=L.foldl (fun t x=>t ++ (⟨#[47]⟩ ++ x)) ⟨#[]⟩
theorem xL (L:List ByteArray) (x:ByteArray):eH (L ++ [x])=eH L ++ (⟨#[47]⟩ ++ x):=by simp [eH,List.foldl_append]
theorem oC:∀ (L:List ByteArray) (t:ByteArray),(L.foldl (fun t x=>t ++ ((⟨#[47]⟩:ByteArray) ++ x)) t).data.toList=t.data.toList ++ Lib.joinTail [47] (L.map (·.data.toList))
 | [],t=>by simp [Lib.joinTail]
 | x :: L,t=>by
  rw [List.foldl_cons,oC L];simp [Lib.joinTail]
theorem xM (L:List ByteArray):(eH L).data.toList=Lib.joinTail [47] (L.map (·.data.toList)):=by
 have:=oC L ⟨#[]⟩;unfold eH;rw [this];rfl
theorem oD (x:ByteArray) (L:List ByteArray):(eH (x :: L)).data.toList=47 :: joinL 47 (x :: L):=by
 rw [xM];simp [joinL,Lib.joinTail]
theorem Dk {s:ByteArray} (h:dR s=true):NoC 47 s:=fun c hc e=>by
 unfold dR at h;simp only [Bool.and_eq_true] at h;have:=List.all_eq_true.1 h.2 c hc;unfold nsC at this;rw [e] at this;exact absurd this (by decide)
theorem Gx {s:ByteArray} (h:dR s=true):s.size≠0:=by
 unfold dR at h;simp only [Bool.and_eq_true,decide_eq_true_eq] at h;omega
def dx (x:ByteArray):Bool:=decide (x.size≠0)
theorem Gy {a:ByteArray} {l:List UInt8} :(a.toList == l)=true↔a.data.toList=l:=by rw [ByteArray.toList_eq,beq_iff_eq]
theorem mO (s:ByteArray):(jC s).data.toList=s.data.toList.drop 1:=by
 unfold jC;rw [gM,List.take_of_length_le (by rw [bsz];exact Nat.le_refl _)]
theorem zn {s:ByteArray} {L:List ByteArray} (hw:IsW 47 s L):((L.filter dx).all dR && (s.toList == [47] || (decide (0 < (L.filter dx).length) && (s.toList == (eH (L.filter dx)).toList))))=dL s:=by
 rw [Bool.eq_iff_iff];simp only [Bool.and_eq_true,Bool.or_eq_true,decide_eq_true_eq];unfold dL;simp only [Bool.and_eq_true,Bool.or_eq_true];constructor
 · rintro ⟨h1,h2 | ⟨h2,h3⟩⟩
   · exact .inl h2
   · right;generalize L.filter dx=M at *;have h3:=Gy.1 h3;rw [ByteArray.toList_eq] at h3;cases M with
     | nil=>simp at h2
     | cons x M=>
       rw [oD] at h3;refine ⟨by rw [h3];rfl,?_⟩;have:fP 47 (jC s)=x :: M:=zm ⟨by simp,fun y hy=>Dk (List.all_eq_true.1 h1 y hy),by rw [mO,h3];rfl⟩;rw [this];exact h1
 · rintro (h | ⟨h1,h2⟩)
   · have hs:=Gy.1 h;have e:L= [⟨#[]⟩,⟨#[]⟩]:=hw.unique ⟨by simp,(by intro x hx;simp at hx;rw [hx];intro c hc;cases hc),(by rw [hs];rfl)⟩;subst e;exact ⟨rfl, .inl h⟩
   · have hh:∃ r,s.data.toList=47 :: r:=by
       cases he:s.data.toList with
       | nil=>rw [he] at h1;cases h1
       | cons c r=>
        rw [he] at h1;have:c=47:=(by simpa using h1);exact ⟨r,by rw [this]⟩
     obtain ⟨r,hr⟩:=hh;have hp:=ow 47 (jC s);have hL:L=⟨#[]⟩ :: fP 47 (jC s):=hw.unique (Dj (a:=⟨#[]⟩) (b:=jC s) (by rw [mO,hr];rfl) (by intro c hc;cases hc) hp);have hf:L.filter dx=fP 47 (jC s):=by
       rw [hL,List.filter_cons,if_neg (by decide)];exact List.filter_eq_self.2 fun x hx=>by
        have:=Gx (List.all_eq_true.1 h2 x hx);unfold dx;simpa using this
     rw [hf];refine ⟨h2, .inr ⟨?_,?_⟩⟩
     · have:=hp.ne;cases hq:fP 47 (jC s) with
       | nil=>exact absurd hq this
       | cons x M=>simp
     · rw [Gy,ByteArray.toList_eq,hr];cases hq:fP 47 (jC s) with
       | nil=>exact absurd hq hp.ne
       | cons x M=>
        rw [oD];have:=hp.eq;rw [hq,mO,hr] at this;rw [← this];rfl
end Go.Proofs.YtollifnnpihfdaaGreatDoor
