import Derived.Test.YtollifnnpihfdaaGreatDoorG11
import Derived.Test.YtollifnnpihfdaaGreatDoorG12
set_option maxRecDepth 100000
set_option maxHeartbeats 64000000
set_option linter.all false
namespace Go.Proofs.YtollifnnpihfdaaGreatDoor
open Go.RowKit
attribute [local irreducible] aV az bI
theorem Qw (w:World) (fd op nu:Int) (tx:ByteArray) (ot:Int) (c:Ctx) (r:aN) (it:Value) (i:Itm) (ir:aD):
   dW (((w.alloc (.cells (bP fd op nu tx ot) 85)).alloc (.cells (aV c r it) 54)).alloc (.cells (az i ir) 73)) w.heap.size fd op nu tx ot∧
   aR (((w.alloc (.cells (bP fd op nu tx ot) 85)).alloc (.cells (aV c r it) 54)).alloc (.cells (az i ir) 73)) (w.heap.size+1) c r it∧
   fZ (((w.alloc (.cells (bP fd op nu tx ot) 85)).alloc (.cells (aV c r it) 54)).alloc (.cells (az i ir) 73)) (w.heap.size+1+1) i ir∧
   Below w.heap.size w (((w.alloc (.cells (bP fd op nu tx ot) 85)).alloc (.cells (aV c r it) 54)).alloc (.cells (az i ir) 73)):=by
 refine ⟨((Blk.new w _ _).alloc _).alloc _,?_,?_,(((Below.refl _ _).alloc (Nat.le_refl _) _).alloc (by simp) _).alloc (by simp;omega) _⟩
 · have:=(Blk.new (w.alloc (.cells (bP fd op nu tx ot) 85)) (aV c r it) 54).alloc (.cells (az i ir) 73);simpa using this
 · have:=Blk.new ((w.alloc (.cells (bP fd op nu tx ot) 85)).alloc (.cells (aV c r it) 54)) (az i ir) 73;simpa using this
theorem uR {c:Ctx} {fd op nu:Int} {tx:ByteArray} {ot:Int} {i:Itm} (h:bI fd=true):bC c fd op nu tx ot i=(((if fd=14 then c.comm else c.exe).toList == tx.toList) == decide (op=1)):=by
 unfold bC dw;rw [if_neg (by rw [h];simp),if_pos h]
theorem rP {c:Ctx} {fd op nu:Int} {tx:ByteArray} {ot:Int} {i:Itm} (h:bI fd=false) (k:fV c fd=false∨(ot≠0∧fV c ot=false)):bC c fd op nu tx ot i=false:=by
 unfold bC;rw [if_pos ⟨h,k⟩]
theorem oh {c:Ctx} {fd op nu:Int} {tx:ByteArray} {ot:Int} {i:Itm} (h:bI fd=false) (h1:fV c fd=true) (h2:ot=0∨fV c ot=true):bC c fd op nu tx ot i=Gq op (zb c i fd) (if ot=0 then nu else zb c i ot):=by
 unfold bC dw;rw [if_neg (by rintro ⟨_,k | k⟩;rw [h1] at k;cases k;rcases h2 with h2 | h2;exact k.1 h2;rw [h2] at k;cases k.2),if_neg (by rw [h];decide),lZ h1];by_cases h0:ot=0
 · rw [if_pos h0,if_pos h0]
 · rw [if_neg h0,if_neg h0,lZ (h2.resolve_left h0)]
theorem deq (a b:Int):decide (a=b)=(a == b):=by by_cases h:a=b <;> simp [h]
theorem om {fd:Int} (h:bI fd=true):fd=13∨fd=14:=by unfold bI at h;simpa using h
theorem pR {fd:Int} (h:bI fd=false):fd≠13∧fd≠14:=by unfold bI at h;simpa using h
attribute [local irreducible] fV zb Gq
theorem Gu (c:Ctx) (r:aN) (it:Value) (fd op nu:Int) (tx:ByteArray) (ot:Int) (i:Itm) (ir:aD) (hf:1≤fd∧fd≤22) (ho:1≤op∧op≤8) (hot:ot=0∨((1≤ot∧ot≤22)∧ot≠13∧ot≠14)) (w:World):
   Calls Tryz.prog 276 #[nL fd op nu tx ot,rq c r it,jJ i ir] w fun e w' =>e= .returned (.bool (bC c fd op nu tx ot i))∧Below w.heap.size w w' :=by
 obtain ⟨hT,hC,hI,hB⟩:=Qw w fd op nu tx ot c r it i ir;have HT:=Hd hT;have HC:=Hd hC;have HI:=Hd hI;have HB:=Hd hB;have CM:=Hd (fun a b W=>NP op a b ho W);have q0:=hT.c0;have q1:=hT.c1;have q2:=hT.c2;have q3:=hT.c3;have q4:=hT.c4;have qc:=hC.comm;have qe:=hC.exe;clear hT hC hI hB ho;cases ht:bI fd
 · have HTX:=Hd ht;have HV:=Hd (fun W=>yU fd W);obtain ⟨n13,n14⟩:=pR ht;have CF:=Hd (fun W=>vX c r it i ir fd hf n13 n14 W);rw [ht] at HV;clear hf ht n13 n14 qc qe;go_in;go_wp2_with fail;refine (HV.o _).mono ?_;rintro e w1 ⟨rfl,rfl⟩;go_wp2_with (first | ((with_reducible refine aP ?_ 54 (.tmp 4) ?_ HC.o ?_ _ Tryz.underlying54 ?_ ?_ ?_);(iterate 4 rfl);exact dK _ _ _) | ((with_reducible refine aP ?_ 73 (.tmp 5) ?_ HI.o ?_ _ Tryz.underlying73 ?_ ?_ ?_);(iterate 4 rfl);exact fo _ _));refine (CF.o _).mono ?_;rintro e w1 ⟨rfl,hb⟩;have hT1:dW w1 w.heap.size fd op nu tx ot:=HT.o.below hb;have HC1:=Hd (HC.o.below hb);have HI1:=Hd (HI.o.below hb);have HB1:=Hd (HB.o.trans (hb.mono HB.o.size));clear q0 q1 q2 q3 q4 HT HC HI HB hb;have q0:=hT1.c0;have q1:=hT1.c1;have q2:=hT1.c2;have q3:=hT1.c3;have q4:=hT1.c4;have HT1:=Hd hT1;clear hT1;cases h1:fV c fd
   · have HE:=Hd (rP (op:=op) (nu:=nu) (tx:=tx) (ot:=ot) (i:=i) HTX.o (.inl h1));clear h1;go_wp2_with fail;go_ret;exact ⟨aX HE.o.symm,HB1.o⟩
   · by_cases h0:ot=0
     · subst h0;have HE:=Hd (oh (op:=op) (nu:=nu) (tx:=tx) (ot:=0) (i:=i) HTX.o h1 (.inl rfl));rw [if_pos rfl] at HE;clear h1;go_wp2_with fail;refine (CM.o _ _ _).mono ?_;rintro e w2 ⟨rfl,rfl⟩;go_wp2_with fail;go_ret;exact ⟨aX HE.o.symm,HB1.o⟩
     · obtain ⟨o1,o2,o3⟩:=hot.resolve_left h0;have CO:=Hd (fun W=>vX c r it i ir ot o1 o2 o3 W);have b0:(ot != 0)=true:=(by simpa using h0);have H0:=Hd h0;have H1:=Hd h1;clear hot o1 o2 o3 h0 h1;go_wp2_with (first | ((with_reducible refine aP ?_ 54 (.tmp 4) ?_ HC1.o ?_ _ Tryz.underlying54 ?_ ?_ ?_);(iterate 4 rfl);exact dK _ _ _) | ((with_reducible refine aP ?_ 73 (.tmp 5) ?_ HI1.o ?_ _ Tryz.underlying73 ?_ ?_ ?_);(iterate 4 rfl);exact fo _ _));refine (CO.o _).mono ?_;rintro e w2 ⟨rfl,hb⟩;have HB2:=Hd (aa HB1.o hb);have k1:=(show dW w2 w.heap.size fd op nu tx ot from HT1.o.below hb).c1;cases h2:fV c ot
       · have HE:=Hd (rP (op:=op) (nu:=nu) (tx:=tx) (i:=i) HTX.o (.inr ⟨H0.o,h2⟩));clear h2;go_wp2_with fail;go_ret;exact ⟨aX HE.o.symm,HB2.o⟩
       · have HE:=Hd (oh (op:=op) (nu:=nu) (tx:=tx) (i:=i) HTX.o H1.o (.inr h2));rw [if_neg H0.o] at HE;clear h2;go_wp2_with fail;refine (CM.o _ _ _).mono ?_;rintro e w3 ⟨rfl,rfl⟩;go_wp2_with fail;go_ret;exact ⟨aX HE.o.symm,HB2.o⟩
 · have HV:=Hd (fun W=>yU fd W);rw [ht] at HV;have HE:=Hd (uR (c:=c) (op:=op) (nu:=nu) (tx:=tx) (ot:=ot) (i:=i) ht);have hv:=om ht;clear hf hot ht CM;rcases hv with rfl | rfl;all_goals
     go_in;go_wp2_with fail;refine (HV.o _).mono ?_;rintro e w1 ⟨rfl,rfl⟩;go_wp2_with fail;go_ret;exact ⟨aX (by rw [HE.o,deq];simp),HB.o⟩
end Go.Proofs.YtollifnnpihfdaaGreatDoor
namespace Go.Proofs.YtollifnnpihfdaaGreatDoor
open Go.RowKit
theorem NR (w:World) (fd op nu:Int) (tx:ByteArray) (ot:Int):Blk (w.alloc (.cells (bP fd op nu tx ot) 85)) w.heap.size 85 (bP fd op nu tx ot)∧Below w.heap.size w (w.alloc (.cells (bP fd op nu tx ot) 85)):=⟨Blk.new w _ _,(Below.refl _ _).alloc (Nat.le_refl _) _⟩
theorem dX {w:World} {g:Nat} {fd op nu:Int} {tx:ByteArray} {ot:Int} (h:Blk w g 85 (bP fd op nu tx ot)):w.cell? ⟨g,0,none⟩=some (.int .i64 fd)∧w.cell? ⟨g,1,none⟩=some (.int .i64 op)∧w.cell? ⟨g,2,none⟩=some (.int .i64 nu)∧w.cell? ⟨g,3,none⟩=some (.string tx)∧w.cell? ⟨g,4,none⟩=some (.int .i64 ot):=⟨h.cell 0,h.cell 1,h.cell 2,h.cell 3,h.cell 4⟩
attribute [local irreducible] ai vW opN nX Qu
attribute [local irreducible] MZ
end Go.Proofs.YtollifnnpihfdaaGreatDoor
namespace Go.Proofs.YtollifnnpihfdaaGreatDoor
open Go.ChangeShapes Go.WideShapes Go.RowKit
theorem jl (a:Addr) (n:Nat):(a.add n).block=a.block:=by unfold Addr.add;split <;> rfl
abbrev rA (t:Tst):Array Value:=bP t.fd t.op t.nu t.tx t.ot
abbrev QI (t:Tst):Value:=nL t.fd t.op t.nu t.tx t.ot
theorem zq (t:Tst):(rA t).all (·.oneCell')=true:=by simp [rA,Value.oneCell']
def aY (w:World) (B:Nat) (A:Option Addr) (ts:List Tst):Prop:=∀ k (hk:k < ts.length),∃ ad:Addr,A=some ad∧ad.block < B∧∀ j,j < 5→w.cell? ((ad.add (k * 5)).add j)=(rA (ts[k]'hk))[j]?
theorem aY.keep {w w' :World} {B B' :Nat} {A:Option Addr} {ts:List Tst} (h:aY w B A ts) (hb:Below B' w w') (hB:B≤B'):aY w' B A ts:=fun k hk=>by
 obtain ⟨ad,e,hl,hc⟩:=h k hk;exact ⟨ad,e,hl,fun j hj=>(hb.cell (by rw [jl,jl];omega)).trans (hc j hj)⟩
theorem aY.more {w:World} {B B' :Nat} {A:Option Addr} {ts:List Tst} (h:aY w B A ts) (hB:B≤B'):aY w B' A ts:=fun k hk=>by
 obtain ⟨ad,e,hl,hc⟩:=h k hk;exact ⟨ad,e,by omega,hc⟩
theorem aY.nil {w:World} {B:Nat} {A:Option Addr} :aY w B A []:=fun k hk=>by simp at hk
theorem zt {w:World} {a:Addr} {t:Tst} (h:∀ j,j < 5→w.cell? (a.add j)=(rA t)[j]?):
  w.cell? a=some (.int .i64 t.fd)∧w.cell? ⟨a.block,a.off+1,none⟩=some (.int .i64 t.op)∧w.cell? ⟨a.block,a.off+2,none⟩=some (.int .i64 t.nu)∧w.cell? ⟨a.block,a.off+3,none⟩=some (.string t.tx)∧w.cell? ⟨a.block,a.off+4,none⟩=some (.int .i64 t.ot):=
 ⟨h 0 (by omega),h 1 (by omega),h 2 (by omega),h 3 (by omega),h 4 (by omega)⟩
def fH (w:World) (base:Nat) (v:Value) (ts:List Tst):Prop:=w.ownsRow base 85 5 v ts.length (ts.flatMap fun t=>(rA t).toList)
theorem fH.nil (w:World) (base:Nat):fH w base (.slice none 0 0) []:=World.ownsRow_nil _ _ _ _
theorem fH.alloc {w:World} {base:Nat} {v:Value} {ts:List Tst} (h:fH w base v ts) (o:Obj):fH (w.alloc o) base v ts:=World.ownsRow.alloc h o
theorem fH.ge {w:World} {base:Nat} {v:Value} {ts:List Tst} (h:fH w base v ts):∀ r,v.ownBlock=some r→base≤r:=fun r hr=>(World.ownsRow.lt h r hr).1
theorem fH.below {w w' :World} {base:Nat} {v:Value} {ts:List Tst} (h:fH w base v ts) (hb:Below w.heap.size w w'):fH w' base v ts:=
 World.ownsRow.kept (row:=none) h ⟨hb.os,hb.tape,hb.output,hb.size,fun i hi _=>hb.block i hi⟩ (by
  cases hv:v.ownBlock with
  | none=>exact .inl rfl
  | some k=>exact .inr (by simp))
theorem fH.only {w w' :World} {lo:Nat} {v:Value} {ts:List Tst} (h:fH w lo v ts) {g:Nat} (hg:w.grownBy w' (some g)) (hlt:g < lo):fH w' lo v ts:=
 World.ownsRow.kept h hg (by
  cases hv:v.ownBlock with
  | none=>exact .inl rfl
  | some k=>right;intro e;injection e with e;have:=h.ge k hv;omega)
theorem fH.setCell {w:World} {lo:Nat} {v:Value} {ts:List Tst} (h:fH w lo v ts) {p:Addr} (hp:p.block < lo) (u:Value):fH (w.setCell p u) lo v ts:=ownsRow_setCell_below h hp u
theorem fH.row {w:World} {lo g:Nat} {v:Value} {ts:List Tst} (h:fH w lo v ts) (hg:g < lo) (cs:Array Value):fH (w.setRow g cs) lo v ts:=
 World.ownsRow.kept h (row:=some g) ⟨rfl,rfl,rfl,by rw [setRow_size];exact Nat.le_refl _,fun i _ hne=>setRow_other _ g i cs (fun e=>hne (by rw [e]))⟩ (by
  cases hv:v.ownBlock with
  | none=>exact .inl rfl
  | some k=>right;intro e;injection e with e;have:=h.ge k hv;omega)
theorem fH.low {w:World} {lo lo' :Nat} {v:Value} {ts:List Tst} (h:fH w lo v ts) (hb:lo' ≤lo):fH w lo' v ts:=Joins.ownsRow_le h hb
theorem uV (t:Tst):(rA t).toList.length=5:=rfl
theorem wo:∀ (ts:List Tst) (k:Nat) (hk:k < ts.length) (j:Nat),j < 5→(ts.flatMap fun t=>(rA t).toList)[k * 5+j]? =(rA (ts[k]'hk))[j]?
 | [],k,hk,_,_=>by simp at hk
 | p :: ts,0,_,j,hj=>by
  rw [List.flatMap_cons,List.getElem?_append_left (by rw [uV];omega)];simp
 | p :: ts,k+1,hk,j,hj=>by
  have ih:=wo ts k (by simp at hk;omega) j hj;rw [List.flatMap_cons,List.getElem?_append_right (by rw [uV];omega),uV,show (k+1) * 5+j - 5=k * 5+j by omega,ih];simp
theorem GA (g a b:Nat):((⟨g,0,none⟩:Addr).add a).add b=⟨g,a+b,none⟩:=by
 unfold Addr.add;split
 · split
   · subst_vars;rfl
   · subst_vars;simp
 · split
   · subst_vars;simp
   · simp
theorem rX (g n:Nat):(⟨g,0,none⟩:Addr).add n=⟨g,n,none⟩:=by
 unfold Addr.add;split
 · subst_vars;rfl
 · simp
theorem fH.tests {w:World} {base:Nat} {v:Value} {ts:List Tst} (h:fH w base v ts):∃ A c,v= .slice A ts.length c∧aY w w.heap.size A ts:=by
 rcases Joins.ownsRow_forms h with ⟨rfl,h0⟩ | ⟨g,cap,rfl⟩
 · have:ts= []:=List.eq_nil_of_length_eq_zero h0;subst this;exact ⟨none,0,rfl,aY.nil⟩
 · refine ⟨_,cap,rfl,fun k hk=>⟨_,rfl,(World.ownsRow.lt h g rfl).2,fun j hj=>?_⟩⟩;have hf:=wo ts k hk j hj;have hs:j < (rA (ts[k]'hk)).size:=hj;rw [Array.getElem?_eq_getElem hs] at hf ⊢;have hc:=World.ownsRow.cells h (g:=g) rfl (k * 5+j) _ hf;rw [rX] at hc;rw [GA];exact hc
theorem Tryz.JV:(Tryz.prog.info? 85).map (fun i=>(i.zero,i.size,i.bytes))=some (some (.agg (bP 0 0 0 ⟨#[]⟩ 0)),5,48):=by kernel_rfl
abbrev bK (r:Rul) (v:Value):Array Value:=#[.int .i64 r.li, .int .i64 r.ac, .int .u64 (r.ca:Int),v, .int .i64 r.wa, .string r.pa, .int .i64 r.pe, .string r.ke]
abbrev oF (r:Rul) (v:Value):Value:= .agg (bK r v)
abbrev dF (w:World) (g:Nat) (r:Rul) (v:Value):Prop:=Blk w g 90 (bK r v)
theorem iN (r:Rul) (v:Value):(Tryz.prog.info? 90).map (·.size)=some (bK r v).size:=by show _=some 8;kernel_rfl
theorem pV (r:Rul) (A:Option Addr) (n c:Nat):(bK r (.slice A n c)).all (·.oneCell')=true:=by simp [bK,Value.oneCell']
section
variable {w:World} {g:Nat} {r:Rul} {v:Value}
theorem dF.c0 (h:dF w g r v):w.cell? ⟨g,0,none⟩=some (.int .i64 r.li):=h.cell 0
theorem dF.c1 (h:dF w g r v):w.cell? ⟨g,1,none⟩=some (.int .i64 r.ac):=h.cell 1
theorem dF.c2 (h:dF w g r v):w.cell? ⟨g,2,none⟩=some (.int .u64 (r.ca:Int)):=h.cell 2
theorem dF.c3 (h:dF w g r v):w.cell? ⟨g,3,none⟩=some v:=h.cell 3
theorem dF.c4 (h:dF w g r v):w.cell? ⟨g,4,none⟩=some (.int .i64 r.wa):=h.cell 4
theorem dF.c5 (h:dF w g r v):w.cell? ⟨g,5,none⟩=some (.string r.pa):=h.cell 5
theorem dF.c6 (h:dF w g r v):w.cell? ⟨g,6,none⟩=some (.int .i64 r.pe):=h.cell 6
theorem dF.c7 (h:dF w g r v):w.cell? ⟨g,7,none⟩=some (.string r.ke):=h.cell 7
end
def szS (L:List ByteArray):Nat:=(L.map fun x=>x.size+1).sum
theorem fold_size:∀ (L:List ByteArray) (t:ByteArray),(L.foldl (fun t x=>t ++ ((⟨#[47]⟩:ByteArray) ++ x)) t).size=t.size+szS L
 | [],t=>by simp [szS]
 | x :: L,t=>by
  rw [List.foldl_cons,fold_size L];have e:(t ++ ((⟨#[47]⟩:ByteArray) ++ x)).size=t.size+(1+x.size):=by rw [ByteArray.size_append,ByteArray.size_append];rfl
  rw [e];simp only [szS,List.map_cons,List.sum_cons];omega
theorem xQ (L:List ByteArray):(eH L).size=szS L:=by
 unfold eH;rw [fold_size];show 0+_=_;omega
theorem GM (A B:List ByteArray):szS (A ++ B)=szS A+szS B:=by simp [szS]
theorem Dy (M:List ByteArray) (k:Nat):szS (M.take k)≤szS M:=by
 have:=GM (M.take k) (M.drop k);rw [List.take_append_drop] at this;omega
theorem oO:∀ L:List ByteArray,szS (L.filter dx)≤szS L
 | []=>Nat.le_refl _
 | x :: L=>by
  have ih:=oO L;have e:szS (x :: L)=x.size+1+szS L:=by simp [szS]
  rw [List.filter_cons];split
  · have e2:szS (x :: L.filter dx)=x.size+1+szS (L.filter dx):=(by simp [szS]);omega
  · omega
theorem wG (c:UInt8):∀ L:List ByteArray,L≠ []→szS L=(joinL c L).length+1
 | [],h=>absurd rfl h
 | [x],_=>by simp [szS,joinL,Lib.joinTail]
 | x :: y :: L,_=>by
  have ih:=wG c (y :: L) (by simp);have e:szS (x :: y :: L)=x.size+1+szS (y :: L):=by simp [szS]
  rw [e,ih,cZ];simp;omega
theorem zz {s:ByteArray} {L:List ByteArray} (hw:IsW 47 s L):szS L=s.size+1:=by
 rw [wG 47 L hw.ne, ← hw.eq,bsz]
theorem nO (M:List ByteArray) (k:Nat) (h:k < M.length):(M.take (k+1)).all dR=((M.take k).all dR && dR M[k]):=by
 rw [List.take_succ_eq_append_getElem h,List.all_append];simp
theorem xR (M:List ByteArray) (k:Nat) (h:k < M.length):eH (M.take (k+1))=eH (M.take k) ++ (⟨#[47]⟩ ++ M[k]):=by
 rw [List.take_succ_eq_append_getElem h,xL]
theorem J4 (M:List ByteArray) (k:Nat) (h:k < M.length) (hf:dR M[k]=false):M.all dR=false:=by
 rw [← Bool.not_eq_true];intro ha;have:=List.all_eq_true.1 ha _ (List.getElem_mem h);rw [hf] at this;cases this
theorem zA (M:List ByteArray):eH (M.take 0)=⟨#[]⟩:=rfl
attribute [local irreducible] dR dL eH
theorem u6 (s:ByteArray) (w:World) (hs:s.size≤100000):Calls Tryz.prog 154 #[.string s] w fun e w' =>e= .returned (.bool (dL s))∧Below w.heap.size w w' :=by
 go_in;go_wp2_with fail;refine (uZ s _ hs).mono ?_;rintro e w1 ⟨v,L,a,b,rfl,hw,hown,hb⟩;have hcl:=zn hw;have hsz1:=oO L;have hsz2:=zz hw;have hel:∀ k (hk:k < (L.filter dx).length),((L.filter dx)[k]'hk).size≤s.size:=fun k hk=>hw.size.2 _ (List.mem_filter.1 (List.getElem_mem hk)).1;have hML:(L.filter dx).length≤100001:=by have:=List.length_filter_le dx L;have:=hw.size.1;omega
 obtain ⟨A,c,rfl,hS⟩:=hown.strs;generalize L.filter dx=M at *;have hss:szS M≤100001:=by omega
 have HB:=Hd hb;have HC:=Hd hcl;have HEL:=Hd hel;have HS:=Hd hS;clear hcl hb hw hown hsz1 hsz2 hel hS;go_wp2_with fail;go_loop [6,7] (fun t i=>∃ k:Nat,k≤M.length∧i= .int .i64 (k:Int)∧t= .string (eH (M.take k))∧Hid ((M.take k).all dR=true)) (fun _ i=>M.length - (intOf i).toNat);case atStart=>exact ⟨0,Nat.zero_le _,rfl,by rw [zA],Hd rfl⟩
 case round=>
  obtain ⟨k,hk,rfl,rfl,hall⟩:=hrel;by_cases hlt:k < M.length
  · obtain ⟨ad,rfl,xJ,hc⟩:=HS.o k hlt;have hel:=HEL.o k hlt;have HST:=Hd (xR M k hlt);have HAT:=Hd (nO M k hlt);have HNO:=Hd (J4 M k hlt);have hz:(eH (M.take k)).size≤100001:=(by rw [xQ];have:=Dy M k;omega);generalize M[k]=x at *;generalize eH (M.take k)=t at *;go_wp2_with fail;refine (JZ x _).mono ?_;rintro e w2 ⟨rfl,rfl⟩;cases hn:dR x
    · have HR:=Hd (show dL s=false by rw [← HC.o,HNO.o hn];rfl);clear hn;go_wp2_with fail;go_ret;exact ⟨aX HR.o.symm,HB.o⟩
    · have HA2:=Hd (show (M.take (k+1)).all dR=true by rw [HAT.o,hall.o,hn];rfl);have hx1:((⟨#[47]⟩:ByteArray) ++ x).size≤100001:=(by rw [ByteArray.size_append];show 1+x.size≤_;omega);clear hn;go_wp2_with fail
      go_round
      case rel=>exact ⟨k+1,by omega,by go_num,by rw [HST.o],HA2.o⟩
      case measure=>simp [intOf];omega
  · obtain rfl:k=M.length:=(by omega);have GN:=hall.o;rw [List.take_length] at GN;rw [List.take_length];have HC2:=Hd (HC.o);rw [GN,Bool.true_and] at HC2;generalize eH M=t at *;clear hall GN HC hk hlt HS HEL;cases e0:(s.toList == [47])
    · rw [e0,Bool.false_or] at HC2;by_cases hz:0 < M.length
      · have d1:decide ((0:Int) < (M.length:Int))=true:=decide_eq_true (by omega);have d2:decide (0 < M.length)=true:=decide_eq_true hz;rw [d2,Bool.true_and] at HC2;cases e1:(s.toList == t.toList)
        · rw [e1] at HC2;go_wp2_with fail;go_ret;exact ⟨aX HC2.o,HB.o⟩
        · rw [e1] at HC2;go_wp2_with fail;go_ret;exact ⟨aX HC2.o,HB.o⟩
      · have d1:decide ((0:Int) < (M.length:Int))=false:=decide_eq_false (by omega);have d2:decide (0 < M.length)=false:=decide_eq_false hz;rw [d2,Bool.false_and] at HC2;go_wp2_with fail;go_ret;exact ⟨aX HC2.o,HB.o⟩
    · rw [e0,Bool.true_or] at HC2;go_wp2_with fail;go_ret;exact ⟨aX HC2.o,HB.o⟩
end Go.Proofs.YtollifnnpihfdaaGreatDoor
