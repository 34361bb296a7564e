import Derived.Test.YtollifnnpihfdaaGreatDoorG33
set_option maxRecDepth 100000
set_option maxHeartbeats 64000000
set_option linter.all false
namespace Go.Proofs.YtollifnnpihfdaaGreatDoor
open Go.RowKit
def LJ (t u:Tst):Bool:=(t.fd == u.fd) && ((t.op == u.op) && ((t.nu == u.nu) && ((t.tx.toList == u.tx.toList) && (t.ot == u.ot))))
theorem BF {t u:Tst} :LJ t u=true↔t=u:=by
 obtain ⟨a,b,c,d,e⟩:=t;obtain ⟨a',b',c',d',e'⟩:=u;unfold LJ;simp only [Bool.and_eq_true,beq_iff_eq,Tst.mk.injEq,ByteArray.toList_eq];constructor
 · rintro ⟨h1,h2,h3,h4,h5⟩;exact ⟨h1,h2,h3,jY h4,h5⟩
 · rintro ⟨h1,h2,h3,h4,h5⟩;exact ⟨h1,h2,h3,by rw [h4],h5⟩
theorem TI (w:World) (d:Nat) (x y:Int):(Op.equalIn (d+1) 3 (.int .i64 x) (.int .i64 y)).run Tryz.prog w= .ok (x == y) w:=by
 simp [Op.equalIn,run_underlying Tryz.underlying3]
theorem TJ (w:World) (d:Nat) (x y:ByteArray):(Op.equalIn (d+1) 9 (.string x) (.string y)).run Tryz.prog w= .ok (x.toList == y.toList) w:=by
 simp [Op.equalIn,run_underlying Tryz.underlying9,beq_toListBytes]
theorem EJ {α β:Type} {l:List α} {g:α→β} {x0 x1 x2 x3 x4:β} (h:l.map g= [x0,x1,x2,x3,x4]):∃ f0 f1 f2 f3 f4,l= [f0,f1,f2,f3,f4]∧g f0=x0∧g f1=x1∧g f2=x2∧g f3=x3∧g f4=x4:=by
 have hl:=congrArg List.length h;simp at hl
 match l,hl with
 | [f0,f1,f2,f3,f4],_=>
  simp at h;exact ⟨f0,f1,f2,f3,f4,rfl,h.1,h.2.1,h.2.2.1,h.2.2.2.1,h.2.2.2.2⟩
theorem LK (t u:Tst) (w:World):(Op.equalIn 10000 85 (QI t) (QI u)).run Tryz.prog w= .ok (LJ t u) w:=by
 have hu:Tryz.prog.underlying 85=some (.struct (Tryz.prog.fieldsOf 85)):=by kernel_rfl
 have hs:Tryz.prog.stoodInHeld 85=false:=by kernel_rfl
 rw [run_equalIn_struct w 9999 _ _ _ hu hs];obtain ⟨a,b,c,d,e⟩:=t;obtain ⟨a',b',c',d',e'⟩:=u;have hm : (Tryz.prog.fieldsOf 85).toList.map (fun f => (f.name == "_", f.type, f.offset)) = [(false, 3, 0), (false, 3, 1), (false, 3, 2), (false, 9, 3), (false, 3, 4)] := by kernel_rfl
 obtain ⟨f0,f1,f2,f3,f4,hl,e0,e1,e2,e3,e4⟩:=EJ hm;simp only [Prod.mk.injEq,beq_eq_false_iff_ne,ne_eq] at e0 e1 e2 e3 e4;obtain ⟨n0,t0,o0⟩:=e0;obtain ⟨n1,t1,o1⟩:=e1;obtain ⟨n2,t2,o2⟩:=e2;obtain ⟨n3,t3,o3⟩:=e3;obtain ⟨n4,t4,o4⟩:=e4;have p0:∀ (a b c e:Int) (d:ByteArray) (w:World),(part 3 #[.int .i64 a, .int .i64 b, .int .i64 c, .string d, .int .i64 e] 0).run Tryz.prog w= .ok (.int .i64 a) w:=fun _ _ _ _ _ _=>by show _=_;kernel_rfl
 have p1:∀ (a b c e:Int) (d:ByteArray) (w:World),(part 3 #[.int .i64 a, .int .i64 b, .int .i64 c, .string d, .int .i64 e] 1).run Tryz.prog w= .ok (.int .i64 b) w:=fun _ _ _ _ _ _=>by show _=_;kernel_rfl
 have p2:∀ (a b c e:Int) (d:ByteArray) (w:World),(part 3 #[.int .i64 a, .int .i64 b, .int .i64 c, .string d, .int .i64 e] 2).run Tryz.prog w= .ok (.int .i64 c) w:=fun _ _ _ _ _ _=>by show _=_;kernel_rfl
 have p3:∀ (a b c e:Int) (d:ByteArray) (w:World),(part 9 #[.int .i64 a, .int .i64 b, .int .i64 c, .string d, .int .i64 e] 3).run Tryz.prog w= .ok (.string d) w:=fun _ _ _ _ _ _=>by show _=_;kernel_rfl
 have p4:∀ (a b c e:Int) (d:ByteArray) (w:World),(part 3 #[.int .i64 a, .int .i64 b, .int .i64 c, .string d, .int .i64 e] 4).run Tryz.prog w= .ok (.int .i64 e) w:=fun _ _ _ _ _ _=>by show _=_;kernel_rfl
 have ei:=fun x y w=>TI w 9998 x y;have es:=fun x y w=>TJ w 9998 x y;rw [hl];unfold LJ;simp only [Op.eqFields,n0,n1,n2,n3,n4,not_false_eq_true,t0,t1,t2,t3,t4,o0,o1,o2,o3,o4,ne_eq,not_false_eq_true,if_true,Sem.run_bind,p0,Result.andThen_ok,ei,es];cases h0:(a == a') <;> cases h1:(b == b') <;> cases h2:(c == c') <;> cases h3:(d.toList == d'.toList) <;> cases h4:(e == e') <;> simp [h0,h1,h2,h3,h4,p0,p1,p2,p3,p4,ei,es]
def gI {α:Type} (x z:α) (w:World) (e:Ending) (w' :World):Prop:=∃ y:Bool,e= .returned (.bool y)∧(y=true↔x=z)∧Below w.heap.size w w'
theorem gI.no {α:Type} {x z:α} {w w' :World} (h:x≠z) (hb:Below w.heap.size w w'):gI x z w (.returned (.bool false)) w' :=⟨false,rfl,⟨fun e=>by (cases e),fun e=>absurd e h⟩,hb⟩
theorem gI.yes {α:Type} {x z:α} {w w' :World} (h:x=z) (hb:Below w.heap.size w w'):gI x z w (.returned (.bool true)) w' :=⟨true,rfl,⟨fun _=>h,fun _=>rfl⟩,hb⟩
theorem uo {a b:List Tst} {k:Nat} (ha:k < a.length) (hb:k < b.length) (h:a.take k=b.take k) (he:a[k]=b[k]):a.take (k+1)=b.take (k+1):=by
 rw [List.take_succ_eq_append_getElem ha,List.take_succ_eq_append_getElem hb,h,he]
theorem PV {a b:List Tst} {k:Nat} (ha:k < a.length) (hb:k < b.length) (he:a[k]≠b[k]):a≠b:=fun e=>by subst e;exact he rfl
theorem LM {a b:List Tst} {n:Nat} (ha:n=a.length) (hb:n=b.length) (h:a.take n=b.take n):a=b:=by
 rw [ha,List.take_length] at h;rw [← ha,hb,List.take_length] at h;exact h
theorem EK (w:World) (x z:Rul) (v u:Value):dF ((w.alloc (.cells (bK x v) 90)).alloc (.cells (bK z u) 90)) w.heap.size x v∧dF ((w.alloc (.cells (bK x v) 90)).alloc (.cells (bK z u) 90)) (w.heap.size+1) z u∧Below w.heap.size w ((w.alloc (.cells (bK x v) 90)).alloc (.cells (bK z u) 90)):=by
 refine ⟨(Blk.new w _ _).alloc _,?_,((Below.refl _ _).alloc (Nat.le_refl _) _).alloc (by simp) _⟩;have:=Blk.new (w.alloc (.cells (bK x v) 90)) (bK z u) 90;simpa using this
theorem LP {x z:Rul} (h1:(x.li == z.li)=true) (h2:(x.ac == z.ac)=true) (h3:((x.ca:Int) == (z.ca:Int))=true) (h4:x.ts=z.ts) (h5:(x.wa == z.wa)=true) (h6:(x.pa.toList == z.pa.toList)=true) (h7:(x.pe == z.pe)=true) (h8:(x.ke.toList == z.ke.toList)=true):x=z:=by
 obtain ⟨a1,a2,a3,a4,a5,a6,a7,a8⟩:=x;obtain ⟨b1,b2,b3,b4,b5,b6,b7,b8⟩:=z;simp only [beq_iff_eq,ByteArray.toList_eq] at h1 h2 h3 h4 h5 h6 h7 h8;simp only [Rul.mk.injEq];exact ⟨h1,h2,by omega,h4,h5,jY h6,h7,jY h8⟩
theorem II (x z:Rul) (A B:Option Addr) (na nb ca cb:Nat) (hna:na=x.ts.length) (hnb:nb=z.ts.length) (hl:na≤1000000) (w:World) (ha:aY w w.heap.size A x.ts) (hb:aY w w.heap.size B z.ts):
   Calls Tryz.prog 216 #[oF x (.slice A na ca),oF z (.slice B nb cb)] w (gI x z w):=by
 obtain ⟨HG1,HG2,HBW⟩:=EK w x z (.slice A na ca) (.slice B nb cb);have HG1:=Hd HG1;have HG2:=Hd HG2;have HBX:=Hd HBW;clear HBW;cases eli:(x.li == z.li)
 · have nli:(x.li != z.li)=true:=(by simp [bne,eli]);have HX:=Hd (show x≠z from fun e=>by rw [e] at eli;simp at eli);clear ha hb hna hnb;go_in;go_wp2_with fail;go_ret;exact gI.no HX.o HBX.o
 have nli:(x.li != z.li)=false:=by simp [bne,eli]
 cases eac:(x.ac == z.ac)
 · have nac:(x.ac != z.ac)=true:=(by simp [bne,eac]);have HX:=Hd (show x≠z from fun e=>by rw [e] at eac;simp at eac);clear ha hb hna hnb;go_in;go_wp2_with fail;go_ret;exact gI.no HX.o HBX.o
 have nac:(x.ac != z.ac)=false:=by simp [bne,eac]
 cases eca:((x.ca:Int) == (z.ca:Int))
 · have nca:((x.ca:Int) != (z.ca:Int))=true:=(by simp [bne,eca]);have HX:=Hd (show x≠z from fun e=>by rw [e] at eca;simp at eca);clear ha hb hna hnb;go_in;go_wp2_with fail;go_ret;exact gI.no HX.o HBX.o
 have nca:((x.ca:Int) != (z.ca:Int))=false:=by simp [bne,eca]
 cases ewa:(x.wa == z.wa)
 · have nwa:(x.wa != z.wa)=true:=(by simp [bne,ewa]);have HX:=Hd (show x≠z from fun e=>by rw [e] at ewa;simp at ewa);clear ha hb hna hnb;go_in;go_wp2_with fail;go_ret;exact gI.no HX.o HBX.o
 have nwa:(x.wa != z.wa)=false:=by simp [bne,ewa]
 cases epa:(x.pa.toList == z.pa.toList)
 · have npa:(x.pa.toList != z.pa.toList)=true:=(by simp [bne,epa]);have HX:=Hd (show x≠z from fun e=>by rw [e] at epa;simp at epa);clear ha hb hna hnb;go_in;go_wp2_with fail;go_ret;exact gI.no HX.o HBX.o
 have npa:(x.pa.toList != z.pa.toList)=false:=by simp [bne,epa]
 cases epe:(x.pe == z.pe)
 · have npe:(x.pe != z.pe)=true:=(by simp [bne,epe]);have HX:=Hd (show x≠z from fun e=>by rw [e] at epe;simp at epe);clear ha hb hna hnb;go_in;go_wp2_with fail;go_ret;exact gI.no HX.o HBX.o
 have npe:(x.pe != z.pe)=false:=by simp [bne,epe]
 cases eke:(x.ke.toList == z.ke.toList)
 · have nke:(x.ke.toList != z.ke.toList)=true:=(by simp [bne,eke]);have HX:=Hd (show x≠z from fun e=>by rw [e] at eke;simp at eke);clear ha hb hna hnb;go_in;go_wp2_with fail;go_ret;exact gI.no HX.o HBX.o
 have nke:(x.ke.toList != z.ke.toList)=false:=by simp [bne,eke]
 by_cases hne:na=nb;case neg=>
   have b1:((na:Int) != (nb:Int))=true:=(by simp;omega);have HX:=Hd (show x≠z from fun e=>hne (by rw [hna,hnb,e]));clear hne hna hnb ha hb;go_in;go_wp2_with fail;go_ret;exact gI.no HX.o HBX.o
 case pos=>
 subst hne;have b1:((na:Int) != (na:Int))=false:=by simp
 have HEQ:=Hd (fun h4=>LP eli eac eca h4 ewa epa epe eke);have HA:=Hd hna;have HB:=Hd hnb;have HTA:=Hd (ha.keep HBX.o (Nat.le_refl _));have HTB:=Hd (hb.keep HBX.o (Nat.le_refl _));clear hna hnb ha hb;go_in;go_wp2_with fail;generalize (w.alloc (.cells (bK x (.slice A na ca)) 90)).alloc (.cells (bK z (.slice B na cb)) 90)=W at *;clear eli eac eca ewa epa epe eke nli nac nca nwa npa npe nke b1;go_loopw [5] (fun i wr=>∃ k:Nat,k≤na∧i= .int .i64 (k:Int)∧Hid (x.ts.take k=z.ts.take k)∧Below W.heap.size W wr) (fun i _=>na - (intOf i).toNat);case atStart=>exact ⟨0,Nat.zero_le _,rfl,Hd rfl,Below.refl _ _⟩
 case round=>
   obtain ⟨k,hk,rfl,htk,hbw⟩:=hrel;have HBW:=Hd (HBX.o.trans (hbw.mono HBX.o.size));have HBI:=Hd hbw;have q3:=dF.c3 (Blk.below HG1.o hbw);have q4:=dF.c3 (Blk.below HG2.o hbw);by_cases hlt:k < na
   · have hka:k < x.ts.length:=(by rw [← HA.o];exact hlt);have hkb:k < z.ts.length:=(by rw [← HB.o];exact hlt);obtain ⟨ad,rfl,_,s0,s1,s2,s3,s4⟩:=(HTA.o.keep hbw HBX.o.size).cells hka;obtain ⟨bd,rfl,_,u0,u1,u2,u3,u4⟩:=(HTB.o.keep hbw HBX.o.size).cells hkb;have HNX:=Hd (uo hka hkb htk.o);have HNE:=Hd (PV (a:=x.ts) (b:=z.ts) hka hkb);have k0:(0:Int)≤(k:Int):=(by omega);have kn:(k:Int) < (na:Int):=(by omega);clear hbw;generalize x.ts[k]=t at *;generalize z.ts[k]=u at *;have hq:=LK t u;cases hy:LJ t u
     · rw [hy] at hq;have HX:=Hd (show x≠z from fun e=>(HNE.o (fun e=>by rw [BF.2 e] at hy;cases hy)) (by rw [e]));clear hy HNX HNE;go_wp2_with fail;go_quiet (fail);go_wp2_with fail;go_ret;exact gI.no HX.o (below_drewN HBW.o _)
     · rw [hy] at hq;have HX:=Hd (HNX.o (BF.1 hy));clear hy HNX HNE;go_wp2_with fail;go_quiet (fail);go_wp2_with fail;go_roundw;case rel=>exact ⟨k+1,by omega,by go_num,HX,below_drewN HBI.o _⟩
       case measure=>simp [intOf];omega
   · have hkn:k=na:=(by omega);subst hkn;have HX:=Hd (HEQ.o (LM HA.o HB.o htk.o));clear hlt hbw;go_wp2_with fail;go_ret;exact gI.yes HX.o HBW.o
abbrev zRu:Array Value:=#[.int .i64 0, .int .i64 0, .int .u64 0, .slice none 0 0, .int .i64 0, .string ⟨#[]⟩, .int .i64 0, .string ⟨#[]⟩]
def CpR (r:Rul) (w:World) (e:Ending) (w' :World):Prop:=∃ (A:Option Addr) (c:Nat),e= .returned (oF r (.slice A r.ts.length c))∧fH w' w.heap.size (.slice A r.ts.length c) r.ts∧Below w.heap.size w w'
theorem BG {fn:Func} (h:fn.results=#[.cell 2 90]) (tmps:Array Value) (w:World) (g:Nat) (r:Rul) (v:Value) (hp:tmps.getD 2 undef= .pointer (some ⟨g,0,none⟩)) (hg:dF w g r v):
  (results fn tmps).run Tryz.prog w= .ok (oF r v) w:=
 results_cell_row h tmps w g _ (bK r v) (0,0) _ hp hg Tryz.underlying90 rfl (iN r v)
theorem BH (r:Rul) (A:Option Addr) (n c:Nat) (hn:n=r.ts.length) (hl:n≤1000) (w:World) (h:aY w w.heap.size A r.ts):
  Calls Tryz.prog 149 #[oF r (.slice A n c)] w (CpR r w):=by
 have B0:=Hd (((Below.refl w.heap.size w).alloc (Nat.le_refl _) (.cells (bK r (.slice A n c)) 90)).alloc (by simp) (.cells zRu 90));have X0:=Hd (show dF _ w.heap.size r (.slice A n c) from (Blk.new w (bK r (.slice A n c)) 90).alloc (.cells zRu 90));have R0:=Hd (show Blk ((w.alloc (.cells (bK r (.slice A n c)) 90)).alloc (.cells zRu 90)) (w.heap.size+1) 90 zRu by
  have h:=Blk.new (w.alloc (.cells (bK r (.slice A n c)) 90)) zRu 90;simpa using h)
 have H0:=Hd (Oc.1 ((h.keep B0.o (Nat.le_refl _)).more B0.o.size));have HN:=Hd hn;have HL:=Hd hl;clear h hn hl;go_in;go_upto_region 1 with fail;generalize (w.alloc (.cells (bK r (.slice A n c)) 90)).alloc (.cells zRu 90)=w1 at *;have n3:=X0.o.c3;go_wp2_with (at_builtin;refine ah ETs rfl (.const (.slice none 0 0)) (.tmp 4) rfl w.heap.size (.slice none 0 0) [] rfl (ax.nil _ _) w1.heap.size A n c r.ts rfl HN.o H0.o (by have:=HL.o;have:=HN.o;simp;omega) B0.o.size ?_);intro v6 w6 ho6 hg6 gL;clear n3;have ho6:ax ETs w6 w.heap.size v6 r.ts:=ho6;have X6:=Hd (X0.o.grown hg6 (by simp [Value.ownBlock]));have R6:=Hd (R0.o.grown hg6 (by simp [Value.ownBlock]));have B6:=Hd (B0.o.grown hg6 B0.o.size (fun k e=>by simp [Value.ownBlock] at e));obtain ⟨A6,c6,rfl,_⟩:=ho6.at;have O6:=Hd ho6;clear ho6 hg6 gL X0 R0 B0 H0;have n3:=X6.o.cell 3;have f3:=X6.o.free 3;have XP:=Hd (show dF (w6.setCell ⟨w.heap.size,3,none⟩ (.slice A6 r.ts.length c6)) w.heap.size r (.slice A6 r.ts.length c6) from X6.o.put 3 _);have RP:=Hd (R6.o.af (.slice A6 r.ts.length c6) (show w.heap.size+1≠(⟨w.heap.size,3,none⟩:Addr).block from by simp));have BP:=Hd (B6.o.setCell (p:=⟨w.heap.size,3,none⟩) (Nat.le_refl _) (.slice A6 r.ts.length c6));have OP:=Hd (O6.o.bD (g:=w.heap.size) (i:=3) (ay O6.o X6.o (by decide)) (.slice A6 r.ts.length c6));go_upto_region 2 with fail;clear n3 f3 X6 R6 B6 O6;generalize w6.setCell ⟨w.heap.size,3,none⟩ (.slice A6 r.ts.length c6)=w7 at *;have c0:=XP.o.cell 0;have c1:=XP.o.cell 1;have c2:=XP.o.cell 2;have c3:=XP.o.cell 3;have c4:=XP.o.cell 4;have c5:=XP.o.cell 5;have c6' :=XP.o.cell 6;have c7:=XP.o.cell 7;go_wp2_with ((with_reducible refine ae ?_ 90 (.tmp 2) (.tmp 7) ?_ RP.o (bK r (.slice A6 r.ts.length c6)) ?_ ?_ ?_ ?_ ?_ ?_);(iterate 4 rfl);(exact iN _ _);rfl;(exact pV _ _ _ _));refine bodyPost_ret (BG (fn:=Tryz.f149) rfl _ _ (w.heap.size+1) r (.slice A6 r.ts.length c6) rfl (Blk.row RP.o _)) rfl ?_;exact ⟨A6,c6,rfl,zL (OP.o.mE (ay OP.o RP.o (by decide)) _),ak BP.o (by omega) _⟩
def TK (rs:List Rul) (w:World) (e:Ending) (w' :World):Prop:=∃ (v:Value) (ys:List Ru),e= .returned v∧bX w' w.heap.size v ys∧ys.map (·.r)=rs∧Below w.heap.size w w'
theorem BI (xs:List Ru) (A:Option Addr) (n c:Nat) (hn:n=xs.length) (w:World) (h:jr w w.heap.size A xs):
  Calls Tryz.prog 150 #[.slice A n c] w (TK (xs.map (·.r)) w):=by
 have HN:=Hd hn;have HA:=Hd h;clear h hn;go_in;go_wp2_with fail;go_loopw [3,4] (fun v i wr=>∃ (k:Nat) (A0:Option Addr) (n0 c0:Nat) (ys:List Ru),k≤n∧v= .slice A0 n0 c0∧i= .int .i64 (k:Int)∧Hid (bX wr w.heap.size (.slice A0 n0 c0) ys)∧Hid (ys.map (·.r)=(xs.map (·.r)).take k)∧Hid (Below w.heap.size w wr)) (fun _ i _=>n - (intOf i).toNat);case atStart=>exact ⟨0,none,0,0, [],Nat.zero_le _,rfl,rfl,Hd (bX.nil _ _),Hd rfl,Hd (Below.refl _ _)⟩
 case round=>
  obtain ⟨k,A0,n0,c0,ys,hk,rfl,rfl,HO,HY,HB⟩:=hrel;by_cases hlt:k < n;case pos=>
   have hkl:k < xs.length:=(by have:=HN.o;omega);have k0:(0:Int)≤(k:Int):=(by omega);have kn:(k:Int) < (n:Int):=(by omega);have hk9:k≤1000000:=(by have:=HA.o.few;omega);have HKF:=Hd (show k+1≤1000 by have:=HA.o.few;omega);have A1:=Hd (HA.o.keep HB.o (Nat.le_refl _));obtain ⟨ad,rfl,hab,hcx⟩:=A1.o.at_ k hkl;obtain ⟨s0,s1,s2,s3,s4,s5,s6,s7⟩:=ma (a:=ad.add (k * 8)) hcx;have HTS:=Hd (A1.o.ts xs[k] (List.getElem_mem hkl));have HT:=Hd (show (xs.map (·.r)).take (k+1)=(xs.map (·.r)).take k ++ [xs[k].r] from by rw [List.take_add_one,List.getElem?_eq_getElem (by simpa using hkl)];simp);have HYL:=Hd (show ys.length=k by have h9:=congrArg List.length HY.o;simp at h9;omega);clear hcx;generalize xs[k]=x at *;go_wp2_with fail;clear s0 s1 s2 s3 s4 s5 s6 s7;refine (BH x.r x.A x.r.ts.length x.c rfl (by have:=HTS.o.2.2;omega) wr (HTS.o.1.more HB.o.size)).mono ?_;rintro e w3 ⟨A3,c3,rfl,ho3,hb⟩;have B3:=Hd ((aa HB.o hb).alloc (aa HB.o hb).size (.cells (bK x.r (.slice A3 x.r.ts.length c3)) 90));have O3:=Hd ((HO.o.below hb).alloc (.cells (bK x.r (.slice A3 x.r.ts.length c3)) 90));have T3:=Hd (show fH _ w.heap.size (.slice A3 x.r.ts.length c3) x.r.ts from (ho3.low HB.o.size).alloc (.cells (bK x.r (.slice A3 x.r.ts.length c3)) 90));have RW:=Hd (aM ERu w3 (bK x.r (.slice A3 x.r.ts.length c3)) 90 ⟨x.r,A3,c3⟩ rfl (Nat.lt_succ_self w3.heap.size));have HGX:=Hd HTS.o.2;clear hb ho3 HB HO A1 HTS;go_wp2_with (at_builtin;refine ah ERu rfl (.tmp 11) (.tmp 17) rfl w.heap.size (.slice A0 n0 c0) ys rfl O3.o.own (w3.heap.size+1) (some ⟨w3.heap.size,0,none⟩) 1 1 [⟨x.r,A3,c3⟩] rfl rfl RW.o (by rw [HYL.o];have:=HKF.o;simp;omega) B3.o.size ?_);intro v6 w6 ho6 hg6 gL;have B6:=Hd (B3.o.grown hg6 B3.o.size (fun q e=>O3.o.own.ge q e));have O6:=Hd (O3.o.apps (ys:= [⟨x.r,A3,c3⟩]) (fun y hy=>by rw [List.mem_singleton.1 hy];exact ⟨T3.o,HGX.o⟩) ho6 hg6 (by rw [List.length_append,HYL.o];exact HKF.o));have HY6:=Hd (show (ys ++ [(⟨x.r,A3,c3⟩:Ru)]).map (·.r)=(xs.map (·.r)).take (k+1) by rw [HT.o,List.map_append,HY.o];rfl);obtain ⟨A6,c6,e6,_⟩:=ho6.at;subst e6;clear ho6 hg6 gL;obtain ⟨q7,q8⟩:=bW hk9 (Nat.le_refl _);go_wp2_with fail;clear q7 q8;go_roundw;case rel=>exact ⟨k+1,_,_,_,_,by omega,rfl,by go_num,O6,HY6,B6⟩
   case measure=>exact bq hlt _ rfl
  case neg=>
   have kn:¬ (k:Int) < (n:Int):=(by omega);have hY:=HY.o;rw [List.take_of_length_le (by simp;have:=HN.o;omega)] at hY;have HY2:=Hd hY;clear hY;go_wp2_with fail;go_ret;exact ⟨_,ys,rfl,HO.o,HY2.o,HB.o⟩
def RA (w:World) (e:Ending) (w' :World):Prop:=∃ i:Int,e= .returned (.int .i64 i)∧Below w.heap.size w w'
attribute [-go_sem] loadVar
attribute [local go_sem] EA EB Iu Iw Iy Pw
theorem nA {w:World} {g:Nat} {r:Rul} {v:Value} (h:dF w g r v):(loadVar 90 ⟨g,0,none⟩).run Tryz.prog w= .ok (oF r v) w:=run_loadVar_row w g _ _ _ _ _ h Tryz.underlying90 rfl (iN _ _)
attribute [local irreducible] bH
theorem Ga (xs:List Ru) (A:Option Addr) (n c:Nat) (hn:n=xs.length) (r:Rul) (T:Option Addr) (tn tc:Nat) (htn:tn=r.ts.length) (w:World) (hR:jr w w.heap.size A xs) (hT:aY w w.heap.size T r.ts):
  Calls Tryz.prog 148 #[.slice A n c,oF r (.slice T tn tc)] w (RA w):=by
 have HN:=Hd hn;have HTN:=Hd htn;have B0:=Hd ((Below.refl w.heap.size w).alloc (Nat.le_refl _) (.cells (bK r (.slice T tn tc)) 90));have X0:=Hd (show dF (w.alloc (.cells (bK r (.slice T tn tc)) 90)) w.heap.size r (.slice T tn tc) from Blk.new w _ _);have R0:=Hd (hR.keep B0.o (Nat.le_refl _));have T0:=Hd (hT.keep B0.o (Nat.le_refl _));clear hR hT hn htn;go_in;go_upto_region 1 with fail;generalize w.alloc (.cells (bK r (.slice T tn tc)) 90)=W at *;go_wp2_with fail;go_loopw [5] (fun i wr=>∃ k:Nat,k≤xs.length∧i= .int .i64 (k:Int)∧Hid (Below W.heap.size W wr)) (fun i _=>xs.length - (intOf i).toNat);case atStart=>exact ⟨0,Nat.zero_le _,rfl,Hd (Below.refl _ _)⟩
 case round=>
  obtain ⟨k,hk,rfl,HB⟩:=hrel;have R1:=Hd (R0.o.keep HB.o B0.o.size);have T1:=Hd (T0.o.keep HB.o B0.o.size);have X1:=Hd (show dF wr w.heap.size r (.slice T tn tc) from X0.o.below HB.o);have hn:=HN.o;by_cases hlt:k < xs.length;case pos=>
   have k1:(k:Int) < (n:Int):=(by omega);have k0:(0:Int)≤(k:Int):=(by omega);have hk9:k≤1000000:=(by have:=R0.o.few;omega);obtain ⟨ad,rfl,xJ,hcx⟩:=R1.o.at_ k hlt;have HTS:=Hd (R1.o.ts xs[k] (List.getElem_mem hlt));have HCX:=Hd hcx;clear hcx hn;generalize xs[k]=x at *;go_upto_region 4 with fail;refine wp_region_held_drew (S:=(fun W' =>Below wr.heap.size wr W')) (by kernel_rfl) (Below.refl _ _).drew (fun hHeld=>?_);refine tk hHeld 0 ?_ ?_ (tk hHeld 1 ?_ ?_ (tk hHeld 2 ?_ ?_ (tk hHeld 3 ?_ ?_ (tk hHeld 4 ?_ ?_ ?_))));iterate 5
    rotate_left
    · intro w' hSw;have hl:=ug (a:=ad.add (k * 8)) (fun j hj=>(hSw.cell (by rw [aj,aj];have:=HB.o.size;have:=B0.o.size;omega)).trans (HCX.o j hj));have Lm:=nA (X1.o.below hSw);go_simp;first | (with_reducible rfl) | (rw [if_neg (by first | omega | (simp;omega))])
   refine rdy1 5 (fun K hK=>?_);go_simp;go_at_call 216;refine (II x.r r x.A T x.r.ts.length tn x.c tc rfl HTN.o (by have:=HTS.o.2.2;omega) _ ((HTS.o.1.keep hHeld (by have:=HB.o.size;have:=B0.o.size;omega)).more (by have:=HB.o.size;have:=B0.o.size;have:=hHeld.size;omega)) ((T1.o.keep hHeld (by have:=HB.o.size;have:=B0.o.size;omega)).more (by have:=HB.o.size;have:=B0.o.size;have:=hHeld.size;omega))).mono ?_;rintro e w2 ⟨y,rfl,_,hb2⟩;have hh:=hHeld.trans (hb2.mono hHeld.size);go_simp;refine hK.o _ _ hh (fun hHeld=>?_);clear hK K hb2 hh;refine wpAnyH_done (by kernel_rfl) ?_ _;go_simp;have HB2:=Hd (HB.o.trans (hHeld.mono HB.o.size));cases y with
   | false=>
    obtain ⟨q7,q8⟩:=bW hk9 (Nat.le_refl _);go_wp2_with fail;clear q7 q8;go_roundw;case rel=>exact ⟨k+1,hlt,by go_num,HB2⟩
    case measure=>exact bq hlt _ rfl
   | true=>
    go_wp2_with fail;go_ret;exact ⟨_,rfl,B0.o.trans (HB2.o.mono B0.o.size)⟩
  case neg=>
   have k1:¬ (k:Int) < (n:Int):=(by omega);go_wp2_with fail;go_ret;exact ⟨_,rfl,B0.o.trans (HB.o.mono B0.o.size)⟩
theorem IJ (xs:List Ru) (A:Option Addr) (n c:Nat) (hn:n=xs.length) (hc:n≤c) (w:World) (hR:jr w w.heap.size A xs):
  Calls Tryz.prog 147 #[.slice A n c] w (RA w):=by
 have HN:=Hd hn;have HC:=Hd hc;have R0:=Hd hR;clear hR hn hc;by_cases h24:24 < n;case pos=>
  have q1:(24:Int) < (n:Int):=by omega
  go_in;go_wp2_with fail;go_ret;exact ⟨_,rfl,Below.refl _ _⟩
 case neg=>
  have q1:¬ (24:Int) < (n:Int):=by omega
  go_in;go_wp2_with fail;go_loopw [3] (fun i wr=>∃ k:Nat,k≤xs.length∧i= .int .i64 (k:Int)∧Hid (Below w.heap.size w wr)) (fun i _=>xs.length - (intOf i).toNat);case atStart=>exact ⟨0,Nat.zero_le _,rfl,Hd (Below.refl _ _)⟩
  case round=>
   obtain ⟨k,hk,rfl,HB⟩:=hrel;have R1:=Hd (R0.o.keep HB.o (Nat.le_refl _));have hn:=HN.o;by_cases hlt:k < xs.length;case pos=>
    have k1:(k:Int) < (n:Int):=(by omega);have k0:(0:Int)≤(k:Int):=(by omega);have hk9:k≤1000000:=(by have:=R0.o.few;omega);have hkc:k≤c:=(by have:=HC.o;omega);have Vl:(k:Int)≤(c:Int):=(by omega);obtain ⟨ad,rfl,xJ,hcx⟩:=R1.o.at_ k hlt;have HTS:=Hd (R1.o.ts xs[k] (List.getElem_mem hlt));have HCX:=Hd hcx;have HTK:=Hd (R1.o.take k);have HKL:=Hd (show k=(xs.take k).length by rw [List.length_take];omega);clear hcx hn;generalize xs[k]=x at *;have hl:=ug (a:=ad.add (k * 8)) HCX.o;go_wp2_with fail;clear hl;refine (vB x.r x.A x.c x.r.ts.length rfl HTS.o.2.siz wr (HTS.o.1.more HB.o.size)).mono ?_;rintro e w2 ⟨rfl,hb2⟩;have HB2:=Hd (aa HB.o hb2);have HX2:=Hd (HTS.o.1.keep hb2 HB.o.size);have K2:=Hd (HTK.o.keep hb2 HB.o.size);have HC2:=Hd (fun j hj=>(hb2.cell (p:=(ad.add (k * 8)).add j) (by rw [aj,aj];have:=HB.o.size;omega)).trans (HCX.o j hj));clear hb2;by_cases hz:bH x.r=0;case neg=>
     have q2:=(bT hz).2;go_wp2_with fail;go_ret;exact ⟨_,rfl,HB2.o⟩
    case pos=>
     have q2:=(dY hz).2;clear hz;go_upto_region 9 with fail;clear q2;refine wp_region_held_drew (S:=(fun W' =>Below w2.heap.size w2 W')) (by kernel_rfl) (Below.refl _ _).drew (fun hHeld=>?_);refine tk hHeld 0 ?_ ?_ (tk hHeld 1 ?_ ?_ (tk hHeld 2 ?_ ?_ (tk hHeld 3 ?_ ?_ (tk hHeld 4 ?_ ?_ (tk hHeld 5 ?_ ?_ (tk hHeld 6 ?_ ?_ ?_))))));iterate 7
       rotate_left
       · intro w' hSw;have hl:=ug (a:=ad.add (k * 8)) (fun j hj=>(hSw.cell (p:=(ad.add (k * 8)).add j) (by rw [aj,aj];have:=HB2.o.size;omega)).trans (HC2.o j hj));go_simp;first | (with_reducible rfl) | (rw [if_neg (by first | omega | (simp;omega))])
     refine rdy1 7 (fun K hK=>?_);go_simp;go_at_call 148;refine (Ga (xs.take k) (some ad) k c HKL.o x.r x.A x.r.ts.length x.c rfl _ ((K2.o.keep hHeld (by have:=HB2.o.size;omega)).more (by have:=HB2.o.size;have:=hHeld.size;omega)) ((HX2.o.keep hHeld (by have:=HB2.o.size;omega)).more (by have:=HB2.o.size;have:=hHeld.size;omega))).mono ?_;rintro e w3 ⟨y,rfl,hb3⟩;have hh:=hHeld.trans (hb3.mono hHeld.size);go_simp;refine hK.o _ _ hh (fun hHeld=>?_);clear hK K hb3 hh;refine tk hHeld 8 ?_ ?_ ?_;rotate_left
     · intro w' hSw;go_simp;first | (with_reducible rfl) | (rw [if_neg (by first | omega | (simp;omega))])
     refine wpAnyH_done (by kernel_rfl) ?_ _;go_simp;have HB3:=Hd (aa HB2.o hHeld);by_cases hy:0≤y;case neg=>
       have q3:¬ 0≤y:=hy;obtain ⟨q7,q8⟩:=bW hk9 (Nat.le_refl _);go_wp2_with fail;clear q7 q8;go_roundw;case rel=>exact ⟨k+1,hlt,by go_num,HB3⟩
       case measure=>exact bq hlt _ rfl
     case pos=>
       go_wp2_with fail;go_ret;exact ⟨_,rfl,HB3.o⟩
   case neg=>
    have k1:¬ (k:Int) < (n:Int):=(by omega);go_wp2_with fail;go_ret;exact ⟨_,rfl,HB.o⟩
end Go.Proofs.YtollifnnpihfdaaGreatDoor
namespace Go.Proofs.YtollifnnpihfdaaGreatDoor
open Go.RowKit
theorem ax.lit {α:Type} (E:El α) (w:World) (base:Nat) (cs:Array Value) (x:α) (h:cs.toList=E.C x) (hb:base≤w.heap.size):ax E (w.alloc (.cells cs E.e)) base (.slice (some ⟨w.heap.size,0,none⟩) 1 1) [x]:=by
 have h1:=World.ownsRow_lit (base:=base) (e:=E.e) (size:=E.sz) w cs 1 hb (by unfold maxLen;omega) (by rw [← Array.length_toList,h,E.len];omega);have e: [x].flatMap E.C=cs.toList:=by rw [h];simp
 unfold ax;rw [e];exact h1
def AdR (m:Nat) (w:World) (e:Ending) (w' :World):Prop:=∃ (i:Int) (v:Value) (ys:List Ru),e= .returned (.tuple #[v, .int .i64 i])∧bX w' w.heap.size v ys∧ys.length≤m+1∧Below w.heap.size w w'
theorem AdR.no {m:Nat} {w w' :World} (i:Int) (hb:Below w.heap.size w w'):AdR m w (.returned (.tuple #[.slice none 0 0, .int .i64 i])) w' :=⟨i,_, [],rfl,bX.nil _ _,by simp,hb⟩
attribute [-go_sem] loadVar
attribute [local go_sem] EA EB Iu Iw Iy Pw
attribute [local irreducible] bH
theorem PW (xs:List Ru) (A:Option Addr) (n c:Nat) (hn:n=xs.length) (hm:n≤900) (hc:n≤c) (r:Rul) (Tr:Option Addr) (tn tc:Nat) (htn:tn=r.ts.length) (hg:GdR r) (front:Bool) (w:World) (hR:jr w w.heap.size A xs) (hT:aY w w.heap.size Tr r.ts):
  Calls Tryz.prog 89 #[.slice A n c,oF r (.slice Tr tn tc), .bool front] w (AdR xs.length w):=by
 have HM:=Hd hm;have HN:=Hd hn;have HC:=Hd hc;have HTN:=Hd htn;have HG:=Hd hg;have B0:=Hd ((Below.refl w.heap.size w).alloc (Nat.le_refl _) (.cells (bK r (.slice Tr tn tc)) 90));have X0:=Hd (show dF (w.alloc (.cells (bK r (.slice Tr tn tc)) 90)) w.heap.size r (.slice Tr tn tc) from Blk.new w _ _);have R0:=Hd ((hR.keep B0.o (Nat.le_refl _)).more B0.o.size);have T0:=Hd ((hT.keep B0.o (Nat.le_refl _)).more B0.o.size);clear hR hT hn hm hc htn hg;go_in;go_upto_region 1 with fail;generalize w.alloc (.cells (bK r (.slice Tr tn tc)) 90)=w0 at *;go_wp2_with fail;refine (IJ xs A n c HN.o HC.o w0 R0.o).mono ?_;rintro e w1 ⟨i1,rfl,hb⟩;have B1:=Hd (aa B0.o hb);have X1:=Hd (show dF _ w.heap.size r (.slice Tr tn tc) from X0.o.below hb);have R1:=Hd (R0.o.below hb);have T1:=Hd ((T0.o.keep hb (Nat.le_refl _)).more hb.size);clear hb B0 X0 R0 T0;by_cases hz1:i1=0;case neg=>
  have q1:=(bT hz1).2;go_wp2_with fail;refine bodyPost_ret (dh rfl _ _) rfl ?_;exact AdR.no _ B1.o
 case pos=>
  have q1:=(dY hz1).2;clear hz1;have hl:=nA X1.o;go_wp2_with fail;clear hl q1;refine (vB r Tr tc tn HTN.o HG.o.siz w1 T1.o).mono ?_;rintro e w2 ⟨rfl,hb⟩;have B2:=Hd (aa B1.o hb);have X2:=Hd (show dF _ w.heap.size r (.slice Tr tn tc) from X1.o.below hb);have R2:=Hd (R1.o.below hb);have T2:=Hd ((T1.o.keep hb (Nat.le_refl _)).more hb.size);clear hb B1 X1 R1 T1;by_cases hz2:bH r=0;case neg=>
   have q1:=(bT hz2).2;go_wp2_with fail;refine bodyPost_ret (dh rfl _ _) rfl ?_;exact AdR.no _ B2.o
  case pos=>
   have q1:=(dY hz2).2;clear hz2;have hl:=nA X2.o;go_wp2_with fail;clear hl q1;refine (Ga xs A n c HN.o r Tr tn tc HTN.o w2 R2.o T2.o).mono ?_;rintro e w3 ⟨i3,rfl,hb⟩;have B3:=Hd (aa B2.o hb);have X3:=Hd (show dF _ w.heap.size r (.slice Tr tn tc) from X2.o.below hb);have R3:=Hd (R2.o.below hb);have T3:=Hd ((T2.o.keep hb (Nat.le_refl _)).more hb.size);clear hb B2 X2 R2 T2;by_cases hy:0≤i3;case pos=>
    go_wp2_with fail;refine bodyPost_ret (dh rfl _ _) rfl ?_;exact AdR.no _ B3.o
   case neg=>
    by_cases h24:n=24;case pos=>
     have q2:=(dY (show (n:Int)=24 by omega)).1;go_wp2_with fail;refine bodyPost_ret (dh rfl _ _) rfl ?_;exact AdR.no _ B3.o
    case neg=>
     have q2:=(bT (show (n:Int)≠24 by omega)).1;have HFW:=Hd R3.o.few;cases front with
     | true=>
      have hl:=nA X3.o;go_wp2_with fail;clear hl q2;refine (BH r Tr tn tc HTN.o (by have:=HG.o.2;have:=HTN.o;omega) w3 T3.o).mono ?_;rintro e w4 ⟨A4,c4,rfl,ho4,hb⟩;have AL:=Hd ((Below.refl w4.heap.size w4).alloc (Nat.le_refl _) (.cells (bK r (.slice A4 r.ts.length c4)) 90));have B5:=Hd (aa (aa B3.o hb) AL.o);have R5:=Hd ((R3.o.below hb).below AL.o);have T5:=Hd (show fH (w4.alloc (.cells (bK r (.slice A4 r.ts.length c4)) 90)) w.heap.size (.slice A4 r.ts.length c4) r.ts from (ho4.low B3.o.size).alloc _);have O5:=Hd (ax.lit ERu w4 w.heap.size (bK r (.slice A4 r.ts.length c4)) ⟨r,A4,c4⟩ rfl (aa B3.o hb).size);clear hb ho4 AL B3 X3 R3 T3;go_wp2_with fail
      skip
      refine (BI xs A n c HN.o _ R5.o).mono ?_;rintro e w6 ⟨v6,ys,rfl,ho6,hy6,hb⟩;have B6:=Hd (aa B5.o hb);have T6:=Hd (T5.o.below hb);have O6:=Hd (ax.below O5.o hb);have L6:=Hd (show ys.length=xs.length by have h9:=congrArg List.length hy6;simpa using h9);have Y6:=Hd (ho6.low B5.o.size);obtain ⟨A6,c6,rfl,gL⟩:=ho6.at;have AT6:=Hd gL;clear hb ho6 hy6 gL B5 R5 T5 O5;go_wp2_with (at_builtin;refine ah ERu rfl (.tmp 30) (.tmp 32) rfl w.heap.size (.slice (some ⟨w4.heap.size,0,none⟩) 1 1) [⟨r,A4,c4⟩] rfl O6.o w6.heap.size A6 ys.length c6 ys rfl rfl AT6.o.at_ (by have:=L6.o;have:=HFW.o;simp;omega) B6.o.size ?_);intro v7 w7 ho7 hg7 Al;have B7:=Hd (B6.o.grown hg7 B6.o.size (fun q e=>ax.ge O6.o q e));have Z6:=Hd (show bX w6 w.heap.size (.slice (some ⟨w4.heap.size,0,none⟩) 1 1) [⟨r,A4,c4⟩] from ⟨O6.o,by simp,fun y hy=>by rw [List.mem_singleton.1 hy];exact ⟨T6.o,HG.o⟩⟩);have O7:=Hd (Z6.o.apps (ys:=ys) (fun y hy=>Y6.o.ts y hy) ho7 hg7 (by have:=L6.o;have:=HM.o;have:=HN.o;simp;omega));clear hg7 Al;go_wp2_with fail;refine bodyPost_ret (dh rfl _ _) rfl ?_;exact ⟨0,_,_,rfl,O7.o,by have:=L6.o;simp;omega,B7.o⟩
     | false=>
      go_upto_region 13 with fail;clear q2;refine wp_region_held_drew (S:=(fun W' =>Below w3.heap.size w3 W')) (by kernel_rfl) (Below.refl _ _).drew (fun hHeld=>?_);refine tk hHeld 0 ?_ ?_ (tk hHeld 2 ?_ ?_ ?_);iterate 2
       rotate_left
       · intro w' hSw;have hl:=nA (X3.o.below hSw);go_simp;first | (with_reducible rfl) | (rw [if_neg (by first | omega | (simp;omega))])
      have R3d:=Hd (R3.o.below hHeld);have T3d:=Hd ((T3.o.keep hHeld (Nat.le_refl _)).more hHeld.size);refine rdy1 1 (fun K hK=>?_);go_simp;go_at_call 150;refine (BI xs A n c HN.o _ R3d.o).mono ?_;rintro e w4 ⟨v4,ys,rfl,ho4,hy4,hb⟩;have hh:=hHeld.trans (hb.mono hHeld.size);have T4:=Hd ((T3d.o.keep hb (Nat.le_refl _)).more hb.size);have L4:=Hd (show ys.length=xs.length by have h9:=congrArg List.length hy4;simpa using h9);have Y4:=Hd (ho4.low (show w.heap.size≤_ from Nat.le_trans B3.o.size hHeld.size));have HQ:=Hd (fun q (e:v4.ownBlock=some q)=>Nat.le_trans hHeld.size (ho4.own.ge q e));obtain ⟨A4,c4,e4,_⟩:=ho4.at;subst e4;clear hb ho4 hy4;go_simp;refine hK.o _ _ hh (fun hHeld=>?_);clear hK K hh;refine rdy1 3 (fun K hK=>?_);go_simp;go_at_call 149;refine (BH r Tr tn tc HTN.o (by have:=HG.o.2;have:=HTN.o;omega) _ T4.o).mono ?_;rintro e w5 ⟨A5,c5,rfl,ho5,hb⟩;have hh:=hHeld.trans (hb.mono hHeld.size);have AL:=Hd ((Below.refl w5.heap.size w5).alloc (Nat.le_refl _) (.cells (bK r (.slice A5 r.ts.length c5)) 90));have Y5:=Hd ((Y4.o.below hb).below AL.o);have T5:=Hd (show fH (w5.alloc (.cells (bK r (.slice A5 r.ts.length c5)) 90)) w.heap.size (.slice A5 r.ts.length c5) r.ts from (ho5.low (show w.heap.size≤_ from Nat.le_trans B3.o.size hHeld.size)).alloc _);have H5:=Hd (hh.trans (AL.o.mono hh.size));have RW:=Hd (aM ERu w5 (bK r (.slice A5 r.ts.length c5)) 90 ⟨r,A5,c5⟩ rfl (Nat.lt_succ_self w5.heap.size));clear hb ho5;go_simp;refine hK.o _ _ hh (fun hHeld=>?_);clear hK K hh;refine rdy1 4 (fun K hK=>?_);go_simp;refine hK.o _ _ H5.o (fun hHeld=>?_);clear hK K;refine rdy1 5 (fun K hK=>?_);refine aI ERu (by rfl) (.tmp 35) (.tmp 38) (by rfl) w.heap.size (.slice A4 ys.length c4) ys (by rfl) Y5.o.own (w5.heap.size+1) (some ⟨w5.heap.size,0,none⟩) 1 1 [⟨r,A5,c5⟩] (by rfl) (by rfl) RW.o (by have:=L4.o;have:=HFW.o;simp;omega) (Nat.le_trans B3.o.size H5.o.size) ?_;intro v7 w7 ho7 hg7 Al;have hh:=(aa B3.o H5.o).grown hg7 (Nat.le_trans B3.o.size H5.o.size) (fun q e=>Y5.o.own.ge q e);have B7:=Hd hh;have O7:=Hd (Y5.o.apps (ys:= [⟨r,A5,c5⟩]) (fun y hy=>by rw [List.mem_singleton.1 hy];exact ⟨T5.o,HG.o⟩) ho7 hg7 (by have:=L4.o;have:=HM.o;have:=HN.o;simp;omega));have hh3:=H5.o.grown hg7 H5.o.size (fun q e=>HQ.o q e);refine hK.o _ _ hh3 (fun hHeld=>?_);clear hK K hh hh3 hg7 Al;refine tk hHeld 6 ?_ ?_ (tk hHeld 7 ?_ ?_ ?_);iterate 2
       rotate_left
       · intro w' hSw;go_simp;first | (with_reducible rfl) | (rw [if_neg (by first | omega | (simp;omega))])
      refine wpAnyH_done (by kernel_rfl) ?_ _;go_simp;go_wp2_with fail;refine bodyPost_ret (dh rfl _ _) rfl ?_;exact ⟨0,_,_,rfl,O7.o,by have:=L4.o;simp;omega,B7.o⟩
end Go.Proofs.YtollifnnpihfdaaGreatDoor
