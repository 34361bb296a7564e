import Derived.Test.YtollifnnpihfdaaGreatDoorX11
set_option maxRecDepth 100000
set_option maxHeartbeats 64000000
set_option linter.all false
namespace Go.Proofs.YtollifnnpihfdaaGreatDoor
open Go.RowKit
theorem MC (w:World) (d:Nat) (x y:Int):(Op.equalIn (d+1) 3 (.int .i64 x) (.int .i64 y)).run Tryz.prog w= .ok (x == y) w:=by
 simp [Op.equalIn,run_underlying Tryz.underlying3]
theorem Bt {α β:Type} {l:List α} {g:α→β} {x0 x1:β} (h:l.map g= [x0,x1]):∃ f0 f1,l= [f0,f1]∧g f0=x0∧g f1=x1:=by
 have hl:=congrArg List.length h;simp at hl
 match l,hl with
 | [f0,f1],_=>
  simp at h;exact ⟨f0,f1,rfl,h.1,h.2⟩
def flB (a b c d:Int):Bool:=(a == c) && (b == d)
theorem uB (a b c d:Int) (w:World):(Op.equalIn 10000 44 (flV a b) (flV c d)).run Tryz.prog w= .ok (flB a b c d) w:=by
 have hu:Tryz.prog.underlying 44=some (.struct (Tryz.prog.fieldsOf 44)):=by kernel_rfl
 have hs:Tryz.prog.stoodInHeld 44=false:=by kernel_rfl
 rw [run_equalIn_struct w 9999 _ _ _ hu hs];have hm : (Tryz.prog.fieldsOf 44).toList.map (fun f => (f.name == "_", f.type, f.offset)) = [(false, 3, 0), (false, 3, 1)] := by kernel_rfl
 obtain ⟨f0,f1,hl,e0,e1⟩:=Bt hm;simp only [Prod.mk.injEq,beq_eq_false_iff_ne,ne_eq] at e0 e1;obtain ⟨n0,t0,o0⟩:=e0;obtain ⟨n1,t1,o1⟩:=e1;have p0:∀ (a b:Int) (w:World),(part 3 #[.int .i64 a, .int .i64 b] 0).run Tryz.prog w= .ok (.int .i64 a) w:=fun _ _ _=>by show _=_;kernel_rfl
 have p1:∀ (a b:Int) (w:World),(part 3 #[.int .i64 a, .int .i64 b] 1).run Tryz.prog w= .ok (.int .i64 b) w:=fun _ _ _=>by show _=_;kernel_rfl
 have ei:=fun x y w=>MC w 9998 x y;rw [hl];unfold flB;simp only [Op.eqFields,n0,n1,not_false_eq_true,t0,t1,o0,o1,ne_eq,not_false_eq_true,if_true,Sem.run_bind,p0,Result.andThen_ok,ei];cases h0:(a == c) <;> cases h1:(b == d) <;> simp [h0,h1,p0,p1,ei]
structure BeS (w wr:World) (A:Option Addr) (n c:Nat) (ds:List Dm) (dev ino pK t:Int) (k:Nat):Prop where
 low:Below w.heap.size w wr
 src:bZ wr w.heap.size A ds
 V:Blk wr w.heap.size 28 #[.slice A n c]
 T:Blk wr (w.heap.size+1+1) 44 #[.int .i64 pK, .int .i64 t]
 U:∃ cur:Int,Blk wr (w.heap.size+1) 44 #[.int .i64 dev, .int .i64 cur]∧fD (ds.map Dm.dv) dev t (17 - k) cur=fD (ds.map Dm.dv) dev t 17 ino
theorem uC (f:List Dv) (dev t i:Int) {k:Nat} (h:k≤16):fD f dev t (17 - k) i=(i == t || fD f dev t (17 - (k+1)) (upF f dev i)):=by
 rw [show 17 - k=(17 - (k+1))+1 by omega];rfl
theorem Bu (dev ino pK t:Int) (ds:List Dm) (A:Option Addr) (n c:Nat) (hn:n=ds.length) (w:World) (h:bZ w w.heap.size A ds):
  Calls Tryz.prog 232 #[fsV A n c,flV dev ino,flV pK t] w fun e w' =>e= .returned (.bool ((dev == pK) && fD (ds.map Dm.dv) dev t 17 ino))∧Below w.heap.size w w' :=by
 have HN:=Hd hn;have B0:=Hd (fF w #[.slice A n c] #[.int .i64 dev, .int .i64 ino] #[.int .i64 pK, .int .i64 t] 28 44 44);have S0:=Hd (show BeS w (((w.alloc (.cells #[.slice A n c] 28)).alloc (.cells #[.int .i64 dev, .int .i64 ino] 44)).alloc (.cells #[.int .i64 pK, .int .i64 t] 44)) A n c ds dev ino pK t 0 by
  have h1:=Blk.new w #[.slice A n c] 28;have h2:=Blk.new (w.alloc (.cells #[.slice A n c] 28)) #[.int .i64 dev, .int .i64 ino] 44;have h3:=Blk.new ((w.alloc (.cells #[.slice A n c] 28)).alloc (.cells #[.int .i64 dev, .int .i64 ino] 44)) #[.int .i64 pK, .int .i64 t] 44;simp only [World.size_alloc] at h2 h3;exact ⟨B0.o,h.keep B0.o (Nat.le_refl _),(h1.alloc _).alloc _,h3,ino,h2.alloc _,rfl⟩)
 clear h hn B0;have HFL:=fun a b c d (W:World)=>uB a b c d W;go_in;go_wp2_with fail;generalize (((w.alloc (.cells #[.slice A n c] 28)).alloc (.cells #[.int .i64 dev, .int .i64 ino] 44)).alloc (.cells #[.int .i64 pK, .int .i64 t] 44))=w0 at *;go_loopw [7] (fun i wr=>∃ k:Nat,k≤17∧i= .int .i64 k∧Hid (BeS w wr A n c ds dev ino pK t k)) (fun i _=>17 - (intOf i).toNat);case atStart=>exact ⟨0,Nat.zero_le _,rfl,S0⟩
 case round=>
  clear S0;obtain ⟨k,hk,rfl,HS⟩:=hrel;have WK:=Hd (dE (q:=k) (by omega));obtain ⟨cur,hU,hbe⟩:=HS.o.U;have u0:=hU.cell 0;have u1:=hU.cell 1;have t0:=HS.o.T.cell 0;have t1:=HS.o.T.cell 1;have v0:=HS.o.V.cell 0;by_cases h17:k≤16;case neg=>
   have k1:¬ (k:Int)≤16:=(by omega);have e0:fD (ds.map Dm.dv) dev t 17 ino=false:=(by rw [← hbe,show 17 - k=0 by omega];rfl);have HR:=Hd e0;clear hbe e0;go_wp2_with fail;go_ret;exact ⟨by rw [HR.o,Bool.and_false];rfl,HS.o.low⟩
  case pos=>
   have k1:(k:Int)≤16:=(by omega);cases hd:dev == pK with
   | false=>
    clear hbe;go_wp2_with fail;go_ret;exact ⟨by rw [hd];rfl,HS.o.low⟩
   | true=>
    rw [uC _ _ _ _ h17] at hbe;have hde:dev=pK:=(by simpa using hd);cases hc:cur == t with
    | true=>
     have HR:=Hd (show fD (ds.map Dm.dv) dev t 17 ino=true by rw [← hbe,hc];rfl);have p1:flB dev cur pK t=true:=(by unfold flB;rw [hd,hc];rfl);clear hbe hc hde;go_wp2_with fail;go_ret;exact ⟨by rw [HR.o,hd];rfl,HS.o.low⟩
    | false=>
     rw [hc,Bool.false_or] at hbe;have HBE:=Hd hbe;have p1:flB dev cur pK t=false:=(by unfold flB;rw [hd,hc];rfl);have HU:=Hd hU;have HUP:=Hd (show upF (ds.map Dm.dv) dev cur=match aD (ds.map Dm.dv) dev cur with | some n=>n.par | none=>0 from rfl);clear hbe hc hde hU;go_wp2_with fail;refine (bP dev cur ds A n c HN.o wr (HS.o.src.more HS.o.low.size)).mono ?_;intro e w2 hp;clear u0 u1 t0 t1 v0;cases hq:aD (ds.map Dm.dv) dev cur with
     | none=>
      rw [hq] at hp;obtain ⟨rfl,hb⟩:=hp;have HUP:=Hd (HUP.o.trans (by rw [hq]));have hb2:=hb.trans (((Below.refl w2.heap.size w2).alloc (Nat.le_refl _) (.cells ndZ 145)).mono hb.size);have D:=Hd (Blk.new w2 ndZ 145);have U2:=Hd (HU.o.below hb2);have T2:=Hd (HS.o.T.below hb2);have V2:=Hd (HS.o.V.below hb2);have L2:=Hd (HS.o.low.trans (hb2.mono HS.o.low.size));have R2:=Hd (HS.o.src.keep hb2 HS.o.low.size);clear hb hb2 hq;go_upto_region 7 with fail;generalize w2.alloc (.cells ndZ 145)=w3 at *;have d5:=D.o.cell 5;have u1:=U2.o.cell 1;have uf:=U2.o.free 1;have HN3:=Hd (show BeS w (w3.setCell ⟨w.heap.size+1,1,none⟩ (.int .i64 0)) A n c ds dev ino pK t (k+1) from
       ⟨L2.o.setCell (p:=⟨w.heap.size+1,1,none⟩) (by show w.heap.size≤w.heap.size+1;omega) _,R2.o.keep ((Below.refl w.heap.size w3).setCell (p:=⟨w.heap.size+1,1,none⟩) (by show w.heap.size≤w.heap.size+1;omega) _) (Nat.le_refl _),
        V2.o.af _ (by show w.heap.size≠w.heap.size+1;omega),T2.o.af _ (by show w.heap.size+1+1≠w.heap.size+1;omega),0,U2.o.put 1 _,by have:=HBE.o;rw [HUP.o] at this;exact this⟩)
      obtain ⟨wk1,wk2⟩:=WK.o;go_wp2_with fail;clear wk1 wk2;go_roundw;case rel=>exact ⟨k+1,by omega,rfl,HN3⟩
      case measure=>exact aL (by omega) _ rfl
     | some nd=>
      rw [hq] at hp;obtain ⟨A2,c2,rfl,ho,hb,hsz⟩:=hp;have HUP:=Hd (HUP.o.trans (by rw [hq]));have hb2:=hb.trans (((Below.refl w2.heap.size w2).alloc (Nat.le_refl _) (.cells (ndC nd (.slice A2 nd.es.length c2)) 145)).mono hb.size);have D:=Hd (Blk.new w2 (ndC nd (.slice A2 nd.es.length c2)) 145);have U2:=Hd (HU.o.below hb2);have T2:=Hd (HS.o.T.below hb2);have V2:=Hd (HS.o.V.below hb2);have L2:=Hd (HS.o.low.trans (hb2.mono HS.o.low.size));have R2:=Hd (HS.o.src.keep hb2 HS.o.low.size);clear hb hb2 hq ho hsz;go_upto_region 7 with fail;generalize w2.alloc (.cells (ndC nd (.slice A2 nd.es.length c2)) 145)=w3 at *;have d5:=D.o.cell 5;have u1:=U2.o.cell 1;have uf:=U2.o.free 1;have HN3:=Hd (show BeS w (w3.setCell ⟨w.heap.size+1,1,none⟩ (.int .i64 nd.par)) A n c ds dev ino pK t (k+1) from
       ⟨L2.o.setCell (p:=⟨w.heap.size+1,1,none⟩) (by show w.heap.size≤w.heap.size+1;omega) _,R2.o.keep ((Below.refl w.heap.size w3).setCell (p:=⟨w.heap.size+1,1,none⟩) (by show w.heap.size≤w.heap.size+1;omega) _) (Nat.le_refl _),
        V2.o.af _ (by show w.heap.size≠w.heap.size+1;omega),T2.o.af _ (by show w.heap.size+1+1≠w.heap.size+1;omega),nd.par,U2.o.put 1 _,by have:=HBE.o;rw [HUP.o] at this;exact this⟩)
      obtain ⟨wk1,wk2⟩:=WK.o;go_wp2_with fail;clear wk1 wk2;go_roundw;case rel=>exact ⟨k+1,by omega,rfl,HN3⟩
      case measure=>exact aL (by omega) _ rfl
theorem cO {a w w' :World} {g:Nat} (h:a.grownBy w (some g)) (k:w.grownBy w' (some g)):a.grownBy w' (some g):=
 ⟨k.os.trans h.os,k.tape.trans h.tape,k.output.trans h.output,Nat.le_trans h.size k.size,fun i hi hne=>(k.block i (Nat.lt_of_lt_of_le hi h.size) hne).trans (h.block i hi hne)⟩
theorem iX {a w:World} {g k:Nat} (h:a.grownBy w (some g)) (hk:a.heap.size≤k) (cs:Array Value):a.grownBy (w.setRow k cs) (some g):=
 ⟨h.os,h.tape,h.output,by rw [setRow_size];exact h.size,fun i hi hne=>(setRow_other w k i cs (by omega)).trans (h.block i hi hne)⟩
section
variable {w wr w' :World} {base g lo n c:Nat} {b b' :Int} {A:Option Addr} {ds:List Dm}
theorem Blk.src {wr w' :World} {g k:Nat} {t:TypeId} {cs:Array Value} (h:Blk wr k t cs) (hg:wr.grownBy w' (some g)) (hne:k≠g):Blk w' k t cs:=h.grown hg (fun e=>hne (by injection e with e;exact e.symm))
end
theorem iG {fn:Func} {i:Nat} (h:fn.results=#[.cell i 44]) (tmps:Array Value) (w:World) (g:Nat) (d k:Int) (hp:tmps.getD i undef= .pointer (some ⟨g,0,none⟩)) (hg:Blk w g 44 #[.int .i64 d, .int .i64 k]):
  (results fn tmps).run Tryz.prog w= .ok (flV d k) w:=
 results_cell_row h tmps w g _ #[.int .i64 d, .int .i64 k] (0,0) _ hp hg Tryz.underlying44 rfl (dH d k)
theorem BH (dev ino:Int) (nm:ByteArray) (hm:nm.size≤1000) (ds:List Dm) (A:Option Addr) (n c:Nat) (hn:n=ds.length) (hok:FOk (ds.map Dm.dv)) (w:World) (h:bZ w w.heap.size A ds):
  Calls Tryz.prog 165 #[fsV A n c,flV dev ino, .string nm] w (jG (fun f' cs=>(∃ t,kC (ds.map Dm.dv) dev ino nm t f')∧cs.length≤2) w):=by
 have HN:=Hd hn;have HM:=Hd hm;have HOK:=Hd hok;have S0:=Hd (Jh w A n c ds hn dev ino h);clear h hn hok;have HM9:nm.size≤maxLen:=by unfold maxLen;omega
 have HM8:=Hd HM9;clear HM9 hm;go_in;go_wp2_with fail;generalize ((w.alloc (.cells #[.slice A n c] 28)).alloc (.cells #[.int .i64 dev, .int .i64 ino] 44)).alloc (.cells #[.slice none 0 0] 28)=w0 at *;refine (jr dev ino nm HM8.o ds A n c HN.o w0 S0.o.files).mono ?_;rintro e w1 ⟨rfl,hb⟩;have S1:=Hd (S0.o.grow hb);clear hb;by_cases hp:bf (ds.map Dm.dv) dev ino nm=0;case neg=>
  have HK:=Hd hp;obtain ⟨p1,p2⟩:=aN hp;clear hp;go_wp2_with ((with_reducible refine ae ?_ 28 (.tmp 6) (.tmp 19) ?_ S1.o.R #[.slice none 0 0] ?_ ?_ ?_ ?_ ?_ ?_);(iterate 4 rfl);(exact bQ _);rfl;(exact bn _ _ _));refine bodyPost_ret (aM (fn:=Tryz.f165) rfl _ _ _ (.slice none 0 0) rfl (Blk.row S1.o.R _)) rfl ?_;exact S1.o.err _ HK.o
 case pos=>
 have HP0:=Hd hp;rw [hp];clear hp;have v0:=S1.o.V.cell 0;have u0:=S1.o.U.cell 0;have u1:=S1.o.U.cell 1;go_wp2_with fail;clear v0 u0 u1;refine (fE dev ino nm ds A n c HN.o w1 S1.o.files).mono ?_;rintro e w4 ⟨rfl,hb⟩;have S4:=Hd (S1.o.grow hb);clear hb;generalize hr:cB (ds.map Dm.dv) dev ino nm=rr at *;obtain ⟨ke,r1,r2⟩:=rr;have HR4:=Hd S4.o.R.lt;by_cases hz:ke=0;case neg=>
  have HKE:=Hd hz;obtain ⟨p1,p4⟩:=aN hz;clear hz hr;have S5:=Hd (S4.o.alloc (.cells #[.int .i64 r1, .int .i64 r2] 44));go_wp2_with ((with_reducible refine ae ?_ 28 (.tmp 6) (.tmp 30) ?_ S5.o.R #[.slice none 0 0] ?_ ?_ ?_ ?_ ?_ ?_);(iterate 4 rfl);(exact bQ _);rfl;(exact bn _ _ _));refine bodyPost_ret (aM (fn:=Tryz.f165) rfl _ _ _ (.slice none 0 0) rfl (Blk.row S5.o.R _)) rfl ?_;exact S5.o.err _ HKE.o
 case pos=>
 subst hz;obtain ⟨nd1,hn1,hk1,xS⟩:=bC HP0.o;obtain ⟨xe,hxe,ex⟩:=fZ hn1 hk1 hr;injection ex with ex1 ex2;subst ex1;subst ex2;have HLK:=Hd hr;obtain ⟨ki,hki⟩:=fH hn1;have HKI:=Hd hki;generalize xe.ino=t at *;clear hr hxe hn1 hk1 xS hki;have S5:=Hd (S4.o.alloc (.cells #[.int .i64 r1, .int .i64 t] 44));have X5:=Hd (Blk.new w4 #[.int .i64 r1, .int .i64 t] 44);clear S4 S1;go_upto_region 7 with fail;generalize w4.alloc (.cells #[.int .i64 r1, .int .i64 t] 44)=w5 at *;have v0:=S5.o.V.cell 0;have u0:=S5.o.U.cell 0;have u1:=S5.o.U.cell 1;have x0:=X5.o.cell 0;have x1:=X5.o.cell 1;go_wp2_with fail;clear v0 u0 u1 x0 x1;refine (jk r1 t ds A n c HN.o w5 S5.o.files).mono ?_;rintro e w55 ⟨rfl,hb⟩;have S55:=Hd (S5.o.grow hb);have X55:=Hd (X5.o.below hb);clear hb;cases hd:bK (ds.map Dm.dv) r1 t with
 | false=>
  clear hd;go_wp2_with ((with_reducible refine ae ?_ 28 (.tmp 6) (.tmp 36) ?_ S55.o.R #[.slice none 0 0] ?_ ?_ ?_ ?_ ?_ ?_);(iterate 4 rfl);(exact bQ _);rfl;(exact bn _ _ _));refine bodyPost_ret (aM (fn:=Tryz.f165) rfl _ _ _ (.slice none 0 0) rfl (Blk.row S55.o.R _)) rfl ?_;exact S55.o.err _ (by decide)
 | true=>
  clear hd;have v0:=S55.o.V.cell 0;have u0:=S55.o.U.cell 0;have u1:=S55.o.U.cell 1;have x0:=X55.o.cell 0;have x1:=X55.o.cell 1;go_wp2_with fail;clear v0 u0 u1 x0 x1;refine (tK r1 t ds A n c HN.o w55 S55.o.files).mono ?_;rintro e w6 ⟨rfl,hb⟩;have S6:=Hd (S55.o.grow hb);have X6:=Hd (X55.o.below hb);clear hb;cases he:gG (ds.map Dm.dv) r1 t with
  | false=>
   clear he;go_wp2_with ((with_reducible refine ae ?_ 28 (.tmp 6) (.tmp 41) ?_ S6.o.R #[.slice none 0 0] ?_ ?_ ?_ ?_ ?_ ?_);(iterate 4 rfl);(exact bQ _);rfl;(exact bn _ _ _));refine bodyPost_ret (aM (fn:=Tryz.f165) rfl _ _ _ (.slice none 0 0) rfl (Blk.row S6.o.R _)) rfl ?_;exact S6.o.err _ (by decide)
  | true=>
   have HDE:=Hd (show bK (ds.map Dm.dv) r1 t=true→gG (ds.map Dm.dv) r1 t=true from fun _=>he);clear he;have v0:=S6.o.V.cell 0;have u0:=S6.o.U.cell 0;have u1:=S6.o.U.cell 1;go_wp2_with fail;clear v0 u0 u1;refine (jF ds A n c HN.o w6 S6.o.files).mono ?_;rintro e w7 ⟨v7,ds7,rfl,ho7,he7,hb⟩;have S7:=Hd (S6.o.grow hb);have X7:=Hd (X6.o.below hb);obtain ⟨A7,c7,rfl,_⟩:=ho7.at;have S8:=Hd (S7.o.alloc (.cells #[.slice A7 ds7.length c7] 28));have X8:=Hd (X7.o.alloc (.cells #[.slice A7 ds7.length c7] 28));have O8:=Hd (Blk.new w7 #[.slice A7 ds7.length c7] 28);have HO8:=Hd (ho7.below ((Below.refl w7.heap.size w7).alloc (Nat.le_refl _) (.cells #[.slice A7 ds7.length c7] 28)));have uz:w6.heap.size≤w7.heap.size:=hb.size;have uA:=S6.o.low.size;have HR6:=Hd (show w.heap.size+1+1 < w6.heap.size from S6.o.R.lt);have HX6:=Hd (show w4.heap.size < w6.heap.size from X6.o.lt);have HE:=Hd he7;clear hb ho7 he7 S7 X7 S6 X6;go_upto_region 12 with fail;generalize w7.alloc (.cells #[.slice A7 ds7.length c7] 28)=w8 at *;have o0:=O8.o.cell 0;have v0:=S8.o.V.cell 0;have u0:=S8.o.U.cell 0;have u1:=S8.o.U.cell 1;have x0:=X8.o.cell 0;have x1:=X8.o.cell 1;have HW7:=Hd uz;have BF:=Hd (show fe (ds7.map Dm.dv) r1 ino=some ki by rw [HE.o];exact HKI.o);have HB8:=Hd (show w6.heap.size≤w8.heap.size from Nat.le_trans uz (Nat.le_of_lt O8.o.lt));have HL7:=Hd (show ds7.length=ds.length by have:=congrArg List.length HE.o;simpa using this);clear uz uA;go_wp2_with fail;refine (jv r1 ino nm HM.o 0 ds7 A7 ds7.length c7 rfl w6.heap.size w8 HO8.o HB8.o ki BF.o (fun nd hnd=>HOK.o.mO r1 ino nd (by rw [← HE.o];exact hnd))).mono ?_;rintro e w89 ⟨Jo,rfl,ho9,he9,hl9,hb9,xU,hg9,hr9⟩;have S89:=Hd (S8.o.keep hb9 HR6.o);have X89:=Hd (X8.o.keep hb9 HX6.o);have O89:=Hd (HO8.o.spare hg9 hr9 O8.o (by decide) (by decide));have BG:=Hd ho9;have Jp:=Hd he9;have EJ:=Hd hl9;have Jq:=Hd (Nat.le_trans HB8.o hb9.size);clear ho9 hb9 hg9 hr9 he9 hl9 S8 X8 O8 HO8 o0;clear v0 u0 u1 x0 x1;have v0:=S89.o.V.cell 0;have u0:=S89.o.U.cell 0;have u1:=S89.o.U.cell 1;have x0:=X89.o.cell 0;have x1:=X89.o.cell 1;have o0:=O89.o.cell 0;go_wp2_with fail;refine (uE r1 t Jo A7 ds7.length c7 EJ.o.symm (by obtain ⟨j,hj,_,e,_⟩:=dQ (ds:=ds7) BF.o;exact ⟨j,e,by rw [EJ.o];exact hj⟩) w6.heap.size w89 BG.o Jq.o).mono ?_;rintro e w9 ⟨ds9,rfl,ho9,he9,hl9,hb9,xU,hg9,hr9⟩;have S9:=Hd (S89.o.keep hb9 HR6.o);have X9:=Hd (X89.o.keep hb9 HX6.o);have O9:=Hd (BG.o.spare hg9 hr9 O89.o (by decide) (by decide));have HO9:=Hd ho9;clear ho9 hb9 hg9 hr9 S89 X89 O89 BG o0;clear v0 u0 u1 x0 x1;have hw7:=HW7.o;have hr6:=HR6.o;have hx6:=HX6.o;have hr4:w.heap.size+1+1 < w4.heap.size:=HR4.o;go_upto_region 14 with fail;refine wp_region_held_drew (S:=(fun W=>Blk W (w.heap.size+1) 44 #[.int .i64 r1, .int .i64 ino]∧Blk W (w4.heap.size) 44 #[.int .i64 r1, .int .i64 t]∧Blk W (w7.heap.size) 28 #[.slice A7 ds7.length c7])) (by kernel_rfl) ⟨S9.o.U,X9.o,O9.o⟩ (fun hHeld=>?_);refine tk hHeld 0 ?_ ?_ (tk hHeld 1 ?_ ?_ (tk hHeld 2 ?_ ?_ (tk hHeld 3 ?_ ?_ (tk hHeld 4 ?_ ?_ ?_))));iterate 5
    rotate_left
    · intro W hSw;obtain ⟨y0,y1,y2⟩:=hSw;have Ji:=y0.cell 0;have Jj:=y0.cell 1;have Jk:=y1.cell 0;have Jl:=y1.cell 1;have Jm:=y2.cell 0;go_simp;try (with_reducible rfl)
   refine rdy1 5 (fun K hK=>?_);go_simp;go_at_call 229;refine (rM ⟨r1,ino,nm,r1,t,0,0⟩ _).mono ?_;rintro e wz ⟨vz,rfl,hov,hbz⟩;have hbz:Below w9.heap.size w9 wz:=aa (Below.refl w9.heap.size w9).drew hbz;have hov:ax kY wz w9.heap.size vz [⟨r1,ino,nm,r1,t,0,0⟩]:=hov;have hh:Blk wz (w.heap.size+1) 44 #[.int .i64 r1, .int .i64 ino]∧Blk wz (w4.heap.size) 44 #[.int .i64 r1, .int .i64 t]∧Blk wz (w7.heap.size) 28 #[.slice A7 ds7.length c7]:=⟨S9.o.U.below hbz,X9.o.below hbz,O9.o.below hbz⟩;have RZ:=Hd (S9.o.R.below hbz);have HOV:=Hd hov;have HBZ:=Hd hbz;clear hbz hov;go_simp;refine hK.o _ _ hh (fun hHeld=>?_);clear hK K;have r0:=RZ.o.cell 0;have rf:=RZ.o.free 0;have hh2:∀ u:Value,Blk (wz.setCell ⟨(w.heap.size+1+1),0,none⟩ u) (w.heap.size+1) 44 #[.int .i64 r1, .int .i64 ino]∧Blk (wz.setCell ⟨(w.heap.size+1+1),0,none⟩ u) (w4.heap.size) 44 #[.int .i64 r1, .int .i64 t]∧Blk (wz.setCell ⟨(w.heap.size+1+1),0,none⟩ u) (w7.heap.size) 28 #[.slice A7 ds7.length c7]:=fun u=>⟨hh.1.af _ (by show _≠(w.heap.size+1+1);omega),hh.2.1.af _ (by show _≠(w.heap.size+1+1);omega),hh.2.2.af _ (by show _≠(w.heap.size+1+1);omega)⟩;refine rdy1 6 (fun K hK=>?_);go_simp;refine hK.o _ _ (hh2 _) (fun hHeld=>?_);clear hK K;clear hh2 hh r0 rf;refine tk hHeld 7 ?_ ?_ (tk hHeld 8 ?_ ?_ ?_);iterate 2
    rotate_left
    · intro W hSw;go_simp;try (with_reducible rfl)
   refine wpAnyH_done (by kernel_rfl) ?_ _;go_wp2_with fail;refine bodyPost_ret (aM (fn:=Tryz.f165) rfl _ _ (w.heap.size+1+1) (.slice A7 ds7.length c7) rfl (RZ.o.put 0 _)) rfl ?_;have hof:=(HO9.o.below HBZ.o).far (av wz ((w.heap.size+1+1)) 0 (.slice A7 ds7.length c7)) (fun q e=>by injection e with e;subst e;exact (HO9.o.below HBZ.o).old (by have:=HR6.o;omega));refine ⟨(S9.o.low.trans (HBZ.o.mono S9.o.low.size)).setCell (p:=⟨(w.heap.size+1+1),0,none⟩) (by show w.heap.size≤(w.heap.size+1+1);omega) _, .inr ⟨A7,ds7.length,c7,ds9,vz, [⟨r1,ino,nm,r1,t,0,0⟩],hof.sJ.2,rfl,hof.low (by have:=HR6.o;omega),(HOV.o.bY (g:=(w.heap.size+1+1)) (i:=0) (fun e=>by have:=HOV.o.ge _ e;have:=S9.o.R.lt;omega) _).low S9.o.low.size,⟨⟨t,HP0.o,HLK.o,HDE.o,by rw [he9,Jp.o,HE.o]⟩,by show 1≤2;omega⟩⟩⟩
def dB (w:World) (g:Nat):Nat→List Value→World
 | _, []=>w
 | o,u :: us=>dB (w.setCell ⟨g,o,none⟩ u) g (o+1) us
def uJ (xs:List Value):Nat→List Value→List Value
 | _, []=>xs
 | o,u :: us=>uJ (xs.set o u) (o+1) us
theorem cZ {a:World} {g:Nat} :∀ (us:List Value) (o:Nat) {w:World},a.grownBy w (some g)→a.grownBy (dB w g o us) (some g)
 | [],_,_,h=>h
 | u :: us,o,w,h=>cZ us (o+1) (aF h (.inl rfl) u)
theorem qI:∀ (us:List Value) (o:Nat) (xs:List Value),o+us.length≤xs.length→∀ i,(uJ xs o us)[i]? =if o≤i∧i < o+us.length then us[i - o]? else xs[i]?
 | [],o,xs,_,i=>by
  rw [if_neg (by simp)];rfl
 | u :: us,o,xs,h,i=>by
  rw [List.length_cons] at h;unfold uJ;rw [qI us (o+1) _ (by rw [List.length_set];omega) i];by_cases h1:i=o
  · subst h1;rw [if_neg (by omega),if_pos (by rw [List.length_cons];omega),List.getElem?_set,if_pos rfl,if_pos (by omega),Nat.sub_self];rfl
  · by_cases h2:o+1≤i∧i < o+1+us.length
    · rw [if_pos h2,if_pos (by rw [List.length_cons];omega),show i - o=(i - (o+1))+1 by omega];rfl
    · rw [if_neg h2,if_neg (by rw [List.length_cons];omega),List.getElem?_set,if_neg (by omega)]
theorem qJ {base g n c:Nat} {e:TypeId} {sz:Nat} :∀ (us:List Value) (o:Nat) {w:World} {xs:List Value},w.ownsRow base e sz (.slice (some ⟨g,0,none⟩) n c) n xs→(dB w g o us).ownsRow base e sz (.slice (some ⟨g,0,none⟩) n c) n (uJ xs o us)
 | [],_,_,_,h=>h
 | u :: us,o,_,_,h=>qJ us (o+1) (World.ownsRow.stored h o u).1
section
variable {α:Type} {E:El α} {w:World} {base g n c:Nat} {L:List α}
theorem El.uK (E:El α) (L:List α) (k:Nat) (hk:k < L.length) (x' :α):uJ (L.flatMap E.C) (k * E.sz) (E.C x')=(L.set k x').flatMap E.C:=by
 have hlen:k * E.sz+(E.C x').length≤(L.flatMap E.C).length:=by
   rw [E.flat,E.len];have:(k+1) * E.sz≤L.length * E.sz:=Nat.mul_le_mul_right _ hk;rw [Nat.succ_mul] at this;exact this
 refine List.ext_getElem? fun i=>?_;rw [qI _ _ _ hlen,E.len];have hdiv:i=i / E.sz * E.sz+i % E.sz:=by rw [Nat.mul_comm];exact (Nat.div_add_mod i E.sz).symm
 have hm:=Nat.mod_lt i E.pos;have hpos:=E.pos;by_cases hi:i / E.sz < L.length
 · have h2:=E.dW (L.set k x') (i / E.sz) (by rw [List.length_set];exact hi) (i % E.sz) hm;have h3:=E.dW L (i / E.sz) hi (i % E.sz) hm;rw [← hdiv] at h2 h3;rw [h2];by_cases hik:i / E.sz=k
   · have e1:k * E.sz≤i∧i < k * E.sz+E.sz:=by
      rw [← hik];constructor
      · omega
      · omega
     rw [if_pos e1];have e2:i - k * E.sz=i % E.sz:=(by rw [← hik];omega);rw [e2,List.getElem_set,if_pos hik.symm]
   · have e1:¬ (k * E.sz≤i∧i < k * E.sz+E.sz):=fun ⟨a,b⟩=>hik (by
      refine Nat.div_eq_of_lt_le ?_ ?_
      · exact a
      · show i < (k+1) * E.sz;rw [Nat.succ_mul];exact b)
     rw [if_neg e1,h3,List.getElem_set,if_neg (fun e=>hik e.symm)]
 · have hge:L.length * E.sz≤i:=by
     have:L.length * E.sz≤i / E.sz * E.sz:=Nat.mul_le_mul_right _ (by omega);omega
   rw [List.getElem?_eq_none (l:=(L.set k x').flatMap E.C) (by rw [E.flat,List.length_set];exact hge),if_neg (fun ⟨a,b⟩=>by
     have:(k+1) * E.sz≤L.length * E.sz:=Nat.mul_le_mul_right _ hk;rw [Nat.succ_mul] at this;omega),List.getElem?_eq_none (by rw [E.flat];exact hge)]
theorem ax.puts (h:ax E w base (.slice (some ⟨g,0,none⟩) n c) L) {k:Nat} {x' :α} (hk:k < L.length):ax E (dB w g (k * E.sz) (E.C x')) base (.slice (some ⟨g,0,none⟩) n c) (L.set k x'):=by
 have hl:L.length=n:=by
  obtain ⟨A,c',e,_⟩:=h.at;injection e with _ e _;exact e.symm
 unfold ax at h ⊢;rw [List.length_set, ← El.uK E L k hk x'];rw [hl] at h ⊢;exact qJ _ _ h
end
theorem aC.JC {w:World} {base:Nat} {v:Value} {ds:List Dm} (h:aC w base v ds) {j k g:Nat} (hj:j < ds.length) (hk:k < ds[j].xs.length) (hA:ds[j].A=some ⟨g,0,none⟩) {x' :Nm} (hsz:iP x'.nd)
   (ho:ax EEn w base x'.sl x'.nd.es):aC (dB w g (k * 8) (ENd.C x')) base v (ds.set j ⟨ds[j].nx,ds[j].xs.set k x',ds[j].A,ds[j].c⟩):=by
 have hd:=(h.nodes _ (List.getElem_mem hj));have hown:(ds[j].sl).ownBlock=some g:=by show (Value.slice ds[j].A _ _).ownBlock=_;rw [hA];rfl
 have hgc:=cZ (ENd.C x') (k * 8) (World.grownBy.refl w (some g));have hne:∀ {x:Nm},ax EEn w base x.sl x.nd.es→∀ q,x.sl.ownBlock=some q→some g≠some q:=fun {x} hx q e r=>by
   injection r with r;subst r;exact aB hx hd.1 (show (209:Nat)≠145 by decide) _ e hown
 have hv:ax EDv (dB w g (k * 8) (ENd.C x')) base v (ds.set j ⟨ds[j].nx,ds[j].xs.set k x',ds[j].A,ds[j].c⟩):=by
   have h1:=h.own.far hgc (fun q e r=>by
     injection r with r;subst r;exact aB h.own hd.1 (show (142:Nat)≠145 by decide) _ e hown)
   have e:(ds.set j ⟨ds[j].nx,ds[j].xs.set k x',ds[j].A,ds[j].c⟩).flatMap EDv.C=ds.flatMap EDv.C:=by
     have:=El.jX EDv (x' :=⟨ds[j].nx,ds[j].xs.set k x',ds[j].A,ds[j].c⟩) (j:=0) (u:= .int .i64 ds[j].nx) ds j hj (by show _=List.set [_,_] 0 _;simp [EDv]) (by show 0 < 2;omega);rw [← this];refine List.ext_getElem? fun q=>?_;rw [List.getElem?_set];split
     · rename_i hq;subst hq;have hf:=EDv.dW ds j hj 0 (by show 0 < 2;omega);split
       · rw [hf];rfl
       · rename_i hlt;rw [List.getElem?_eq_none (by omega)]
     · rfl
   unfold ax at h1 ⊢;rw [e,List.length_set];exact h1
 refine h.Ja hj hgc hv ⟨?_,?_⟩ ?_ ?_ ?_
 · show ax ENd _ base (.slice ds[j].A (ds[j].xs.set k x').length ds[j].c) (ds[j].xs.set k x');have h1:ax ENd w base (.slice ds[j].A ds[j].xs.length ds[j].c) ds[j].xs:=hd.1;rw [hA] at h1 ⊢;rw [List.length_set];exact h1.puts hk
 · show (ds[j].xs.set k x').length≤1000;rw [List.length_set];exact hd.2
 · intro y hy;rcases gW hy with rfl | hy
   · exact ⟨ho.far hgc (fun q e r=>hne ho q e r),hsz⟩
   · have h2:=h.cu _ (List.getElem_mem hj) y hy;exact ⟨h2.1.far hgc (fun q e r=>hne h2.1 q e r),h2.2⟩
 · intro q hq hqj g' e;refine ⟨fun r=>?_,?_⟩
   · injection r with r;subst r;exact h.other hq hj hqj e hown
   · intro r;exact h.other hq hj hqj e (by
       have r:(Value.slice ds[j].A (ds[j].xs.set k x').length ds[j].c).ownBlock=some g' :=r;show (Value.slice ds[j].A _ _).ownBlock=_;rw [hA] at r ⊢;exact r)
 · intro d hd' x hx' q e r;exact hne (h.cu d hd' x hx').1 q e r
attribute [local irreducible] bE aO jQ
theorem Lu (w:World) (fd op nu:Int) (tx:ByteArray) (ot:Int) (c:Ctx) (r:bN) (it:Value) (i:Itm) (ir:bB):
   jR (((w.alloc (.cells (aV fd op nu tx ot) 85)).alloc (.cells (bE c r it) 54)).alloc (.cells (aO i ir) 73)) w.heap.size fd op nu tx ot∧
   bU (((w.alloc (.cells (aV fd op nu tx ot) 85)).alloc (.cells (bE c r it) 54)).alloc (.cells (aO i ir) 73)) (w.heap.size+1) c r it∧
   gJ (((w.alloc (.cells (aV fd op nu tx ot) 85)).alloc (.cells (bE c r it) 54)).alloc (.cells (aO i ir) 73)) (w.heap.size+1+1) i ir∧
   Below w.heap.size w (((w.alloc (.cells (aV fd op nu tx ot) 85)).alloc (.cells (bE c r it) 54)).alloc (.cells (aO i ir) 73)):=by
 refine ⟨((Blk.new w _ _).alloc _).alloc _,?_,?_,(((Below.refl _ _).alloc (Nat.le_refl _) _).alloc (by simp) _).alloc (by simp;omega) _⟩
 · have:=(Blk.new (w.alloc (.cells (aV fd op nu tx ot) 85)) (bE c r it) 54).alloc (.cells (aO i ir) 73);simpa using this
 · have:=Blk.new ((w.alloc (.cells (aV fd op nu tx ot) 85)).alloc (.cells (bE c r it) 54)) (aO i ir) 73;simpa using this
attribute [local irreducible] Cb IK
end Go.Proofs.YtollifnnpihfdaaGreatDoor
