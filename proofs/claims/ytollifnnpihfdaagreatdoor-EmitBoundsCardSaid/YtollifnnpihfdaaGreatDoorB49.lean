import Derived.Test.YtollifnnpihfdaaGreatDoorB48
set_option maxRecDepth 100000
set_option maxHeartbeats 64000000
set_option linter.all false
namespace Go.Proofs.YtollifnnpihfdaaGreatDoor
open Go.RowKit
abbrev bxA (w:World):World:=((w.alloc (.cells dL 54)).alloc (.cells syZ 36)).alloc (.cells rsZ 57)
abbrev bxB (w:World) (d:ExD):World:=(bxA w).setRow w.heap.size d.X
abbrev bxC (w:World) (d:ExD):World:=(bxB w d).setRow (w.heap.size+1) (syC d.s)
abbrev bxD (w:World) (d:ExD):World:=(bxC w d).setRow (w.heap.size+2) d.R
theorem LM (w:World) (d:ExD):Below w.heap.size w (bxD w d)∧Blk (bxA w) w.heap.size 54 dL∧Blk (bxB w d) (w.heap.size+1) 36 syZ∧Blk (bxC w d) (w.heap.size+2) 57 rsZ∧Blk (bxD w d) w.heap.size 54 d.X:=by
 have s1:(w.alloc (.cells dL 54)).heap.size=w.heap.size+1:=by simp
 have s2:((w.alloc (.cells dL 54)).alloc (.cells syZ 36)).heap.size=w.heap.size+2:=by simp
 have h1:=Blk.new (w.alloc (.cells dL 54)) syZ 36;have h2:=Blk.new ((w.alloc (.cells dL 54)).alloc (.cells syZ 36)) rsZ 57;rw [s1] at h1;rw [s2] at h2;have k0:Blk (bxA w) w.heap.size 54 dL:=((Blk.new w dL _).alloc _).alloc _;have k1:Blk (bxA w) (w.heap.size+1) 36 syZ:=h1.alloc _;have k2:Blk (bxA w) (w.heap.size+2) 57 rsZ:=h2;refine ⟨ai (ai (ai ((((Below.refl _ _).alloc (Nat.le_refl _) _).alloc (by rw [s1];omega) _).alloc (by rw [s2];omega) _) (Nat.le_refl _) _) (by omega) _) (by omega) _,k0,k1.ah _ (by omega),(k2.ah _ (by omega)).ah _ (by omega),?_⟩;exact ((k0.row d.X).ah _ (by omega)).ah _ (by omega)
theorem AY (d:ExD) (ti:Int) (key cwd:ByteArray):∀ x∈evE d ti key cwd,x.ps.length≤1000:=by
 have hx:∀ (t:Int) (ps:List Pr),ps.length≤1000→∀ x:Rc,x=⟨t,ti,0,ps⟩→x.ps.length≤1000:=fun t ps h x e=>by rw [e];exact h
 intro x hm;rw [qG] at hm;rcases List.mem_append.1 hm with hm | hm
 · rcases List.mem_append.1 hm with hm | hm
   · rcases List.mem_append.1 hm with hm | hm
     · unfold Ch at hm;simp only [List.mem_append,List.mem_cons] at hm;rcases hm with (rfl | hm) | hm
       · exact (show (19:Nat)≤1000 by omega)
       · split at hm
         · rw [List.mem_singleton.1 hm];show (uF d.gs).length≤1000;unfold uF;simp only [List.length_cons,List.length_mapIdx,List.length_take];omega
         · cases hm
       · split at hm
         · rw [List.mem_singleton.1 hm];exact (show (2:Nat)≤1000 by omega)
         · cases hm
     · unfold Ci at hm;split at hm
       · cases hm
       · rw [List.mem_singleton.1 hm];exact (show (1:Nat)≤1000 by omega)
   · unfold Cj at hm;obtain ⟨i,hi,e⟩:=List.mem_mapIdx.1 hm;rw [← e];exact (show (11:Nat)≤1000 by omega)
 · rw [List.mem_singleton.1 hm];exact Nat.zero_le _
theorem ExD.Ok.below {d:ExD} {w w' :World} {lo:Nat} (h:d.Ok w lo) (hb:Below w.heap.size w w'):d.Ok w' lo:=⟨h.hz,h.ha,h.hp,h.hg,h.og.below hb,h.oi.below hb,h.hi,h.os.below hb⟩
def prB (p:Pr):Nat:=1+(prT p.nm p.kd p.nu p.tx).size
theorem tq (nm:ByteArray) (kd nu:Int) (tx:ByteArray):prB ⟨nm,kd,nu,tx⟩=nm.size+2+(I5 kd nu tx).size:=by
 unfold prB prT;rw [ByteArray.size_append,ByteArray.size_append];show 1+(nm.size+1+(I5 kd nu tx).size)=nm.size+2+(I5 kd nu tx).size;omega
theorem bL {nm:ByteArray} {n:Int} (k:Nat) (h:nm.size=k):prB (nuP nm n)≤k+28:=by
 have:=lH n;show prB ⟨nm,1,n,_⟩≤_;rw [tq];show _+(uG n).size≤_;omega
theorem kr {nm t:ByteArray} (k m:Nat) (h:nm.size=k) (ht:t.size≤m) (hm:2≤m):prB (txP nm t)≤k+4+2 * m:=by
 unfold txP;split
 · rw [tq];show _+6≤_;omega
 · have:=oL t;rw [tq];show _+(df t).size≤_;omega
theorem qI {nm t:ByteArray} (k m:Nat) (h:nm.size=k) (ht:t.size≤m) (hm:2≤m):prB (soP nm t)≤k+4+2 * m:=by
 unfold soP;split
 · rw [tq];show _+6≤_;omega
 · exact kr k m h ht hm
inductive LeL:List Pr→List Nat→Prop
 | nil:LeL [] []
 | cons {p:Pr} {b:Nat} {ps:List Pr} {bs:List Nat} :prB p≤b→LeL ps bs→LeL (p :: ps) (b :: bs)
theorem LeL.sum {ps:List Pr} {bs:List Nat} (h:LeL ps bs):(ps.map prB).sum≤bs.sum:=by
 induction h with
 | nil=>simp
 | cons h _ ih=>rw [List.map_cons,List.sum_cons,List.sum_cons];omega
def okP (p:Pr):Prop:=bV p.nm p.kd p.nu p.tx=0∧p.nm.size≤16
theorem Bc {nm:ByteArray} {n:Int} (h:dw nm.data.toList=true∧nm.size≤16):okP (nuP nm n):=by
 refine ⟨?_,h.2⟩;show bV nm 1 n ⟨#[]⟩=0;unfold bV;rw [if_neg (by rw [h.1];simp),if_neg (by simp;rfl),if_neg (by decide)]
theorem Cn {nm:ByteArray} (h:dw nm.data.toList=true∧nm.size≤16):okP ⟨nm,3,0,⟨#[]⟩⟩:=by
 refine ⟨?_,h.2⟩;show bV nm 3 0 ⟨#[]⟩=0;unfold bV;rw [if_neg (by rw [h.1];simp),if_neg (by simp;rfl),if_neg (by decide)]
theorem yK {nm t:ByteArray} (h:dw nm.data.toList=true∧nm.size≤16):okP (txP nm t):=by
 unfold txP;split
 · exact Cn h
 · refine ⟨?_,h.2⟩;show bV nm 2 0 t=0;unfold bV;rw [if_neg (by rw [h.1];simp),if_neg (by simp),if_neg (by assumption)]
theorem EJ {nm t:ByteArray} (h:dw nm.data.toList=true∧nm.size≤16):okP (soP nm t):=by
 unfold soP;split
 · exact Cn h
 · exact yK h
def Bd (N:List ByteArray):Bool:=(List.range N.length).all fun i=>(List.range i).all fun k=> !((N.getD k ⟨#[]⟩).toList == (N.getD i ⟨#[]⟩).toList)
theorem Jc {ps:List Pr} (h:Bd (ps.map (·.nm))=true) (i:Nat) (hi:i < ps.length) (k:Nat) (hk:k < i):((ps[k]'(by omega)).nm.toList == (ps[i]'hi).nm.toList)=false:=by
 unfold Bd at h;rw [List.all_eq_true] at h;have h1:=h i (by rw [List.mem_range,List.length_map];exact hi);rw [List.all_eq_true] at h1;have h2:=h1 k (by rw [List.mem_range];exact hk);rw [List.getD_eq_getElem?_getD,List.getD_eq_getElem?_getD,List.getElem?_map,List.getElem?_map,List.getElem?_eq_getElem hi,List.getElem?_eq_getElem (show k < ps.length by omega)] at h2;simpa using h2
abbrev MT:Int:=1099511627776
structure BdR (r:Rc) (b:Nat):Prop where
 g:∀ s,0≤s∧s≤1073741824→RcG { r with se:=s }
 b:oM { r with se:=1073741824 } ≤b
 m:oM { r with se:=0 } ≤oM { r with se:=1073741824 }
theorem Co:(fC 20 1099511627 ⟨#[]⟩).size=10∧(thT 776).size=3∧(fC 20 0 ⟨#[]⟩).size=1∧(fC 20 1073741824 ⟨#[]⟩).size=10:=by decide+kernel
theorem oN (ty:Int) (ps:List Pr) (s:Int):oM ⟨ty,MT,s,ps⟩=34+(nmT ty).size+(fC 20 s ⟨#[]⟩).size+(ps.map prB).sum:=by
 obtain ⟨h1,h2,_,_⟩:=Co;unfold oM qH;rw [jV];unfold hdT;simp only [ByteArray.size_append];rw [show MT / 1000=1099511627 from rfl,show MT % 1000=776 from rfl,h1,h2];show 5+_+11+10+1+3+1+_+2+(ps.map prB).sum+1=_;omega
theorem iQ (j:Nat) (hj:j < 10) {ps:List Pr} (bs:List Nat) (hb:LeL ps bs) (hl:ps.length≤24) (ho:∀ p∈ps,okP p) (hd:Bd (ps.map (·.nm))=true) (B:Nat) (hB:44+(kdK j).nm.size+bs.sum≤B):BdR ⟨(kdK j).ty,MT,0,ps⟩ B:=by
 obtain ⟨_,_,h3,h4⟩:=Co;refine ⟨fun s hs=>⟨⟨j,hj,rfl⟩,⟨by show (0:Int)≤1099511627776;omega,by show (1099511627776:Int)≤1099511627776;omega⟩,hs,hl,ho,Jc hd⟩,?_,?_⟩
 · show oM ⟨(kdK j).ty,MT,1073741824,ps⟩≤B;rw [oN,h4,yH j hj];have:=hb.sum;omega
 · show oM ⟨(kdK j).ty,MT,0,ps⟩≤oM ⟨(kdK j).ty,MT,1073741824,ps⟩;rw [oN,oN,h3,h4];omega
theorem Jd:BdR ⟨1320,MT,0, []⟩ 47:=iQ 8 (by omega) [] LeL.nil (by decide) (fun _ h=>by cases h) rfl 47 (by decide)
theorem Je {s:ByteArray} (h:s.size≤586):BdR ⟨1307,MT,0,BV s⟩ 1226:=
 iQ 6 (by omega) [1179] (.cons (qI 3 586 rfl h (by omega)) .nil) (by show (1:Nat)≤24;omega) (fun p hp=>by rw [List.mem_singleton.1 hp];exact EJ (by decide+kernel)) (by show Bd [(soP ⟨#[99,119,100]⟩ s).nm]=true;rw [yA];decide+kernel) 1226 (by decide)
theorem EK (k:Int):(oG k).size≤4:=by unfold oG;(repeat' split) <;> decide
theorem EL (k:Int):(oH k).size≤6:=by unfold oH;(repeat' split) <;> decide
theorem Jf (k:Int):(Ah k).size≤3:=by unfold Ah;split <;> decide
theorem EM (i:Nat) (y:Itm) (r:bE) (h:uA (y,r)):BdR ⟨1302,MT,0,ug i y r⟩ 1860:=by
 refine iQ 3 (by omega) [32,264,1288,31,33,32,32,32,16,20,32] ?_ (by show (11:Nat)≤24;omega) ?_ ?_ 1860 (by decide)
 · exact .cons (bL 4 rfl) (.cons (kr 4 128 rfl h.1 (by omega)) (.cons (qI 4 640 rfl h.2.1 (by omega)) (.cons (bL 3 rfl) (.cons (bL 5 rfl) (.cons (bL 4 rfl) (.cons (bL 4 rfl) (.cons (bL 4 rfl) (.cons (kr 4 4 rfl (EK _) (by omega)) (.cons (kr 4 6 rfl (EL _) (by omega)) (.cons (bL 4 rfl) .nil))))))))))
 · intro p hp;unfold ug at hp;simp only [List.mem_cons,List.not_mem_nil,or_false] at hp;rcases hp with rfl | rfl | rfl | rfl | rfl | rfl | rfl | rfl | rfl | rfl | rfl;all_goals first | exact Bc (by decide+kernel) | exact yK (by decide+kernel) | exact EJ (by decide+kernel)
 · rw [AV];decide+kernel
theorem Jg (m:Mk) (key:ByteArray) (h1:(dE m.r.n).name.size≤8) (h2:m.cx.comm.size≤640) (h3:m.cx.exe.size≤640) (h4:key.size≤33):BdR ⟨1300,MT,0,qp m key⟩ 3177:=by
 refine iQ 2 (by omega) [24,17,32,30,30,30,30,33,32,31,32,31,31,32,32,31,1288,1287,73] ?_ (by show (19:Nat)≤24;omega) ?_ ?_ 3177 (by decide)
 · exact .cons (kr 4 8 rfl h1 (by omega)) (.cons (kr 7 3 rfl (Jf _) (by omega)) (.cons (bL 4 rfl) (.cons (bL 2 rfl) (.cons (bL 2 rfl) (.cons (bL 2 rfl) (.cons (bL 2 rfl) (.cons (bL 5 rfl) (.cons (bL 4 rfl) (.cons (bL 3 rfl) (.cons (bL 4 rfl) (.cons (bL 3 rfl) (.cons (bL 3 rfl) (.cons (bL 4 rfl) (.cons (bL 4 rfl) (.cons (bL 3 rfl) (.cons (qI 4 640 rfl h2 (by omega)) (.cons (qI 3 640 rfl h3 (by omega)) (.cons (qI 3 33 rfl h4 (by omega)) .nil))))))))))))))))))
 · intro p hp;unfold qp at hp;simp only [List.mem_cons,List.not_mem_nil,or_false] at hp;rcases hp with rfl | rfl | rfl | rfl | rfl | rfl | rfl | rfl | rfl | rfl | rfl | rfl | rfl | rfl | rfl | rfl | rfl | rfl | rfl;all_goals first | exact Bc (by decide+kernel) | exact yK (by decide+kernel) | exact EJ (by decide+kernel)
 · rw [AU];decide+kernel
theorem Jh (m:Mk) (s:ByteArray) (h:s.size≤4):BdR ⟨1306,MT,0,Aj m s⟩ 100:=by
 refine iQ 5 (by omega) [16,32] (.cons (kr 4 4 rfl h (by omega)) (.cons (bL 4 rfl) .nil)) (by show (2:Nat)≤24;omega) ?_ ?_ 100 (by decide)
 · intro p hp;unfold Aj at hp;simp only [List.mem_cons,List.not_mem_nil,or_false] at hp;rcases hp with rfl | rfl;all_goals first | exact Bc (by decide+kernel) | exact yK (by decide+kernel)
 · show Bd [(txP ⟨#[104,111,115,116]⟩ s).nm,(nuP ⟨#[112,111,114,116]⟩ (m.cx.a 0)).nm]=true;rw [fu,yB];decide+kernel
theorem Ji (gs:List ByteArray) (hl:gs.length≤4) (h:∀ s∈gs,s.size≤4):BdR ⟨1309,MT,0,uF gs⟩ 138:=by
 have T:∀ (k:Nat) (s:ByteArray),k < 4→s.size≤4→prB (txP (jD k) s)≤14:=fun k s hk hs=>kr 2 4 rfl hs (by omega);have O:∀ (k:Nat) (s:ByteArray),k < 4→okP (txP (jD k) s):=fun k s hk=>yK ((show ∀ a:Fin 4,dw (jD a.val).data.toList=true∧(jD a.val).size≤16 by decide+kernel) ⟨k,hk⟩);have A:okP (nuP ⟨#[97,114,103,99]⟩ gs.length):=Bc (by decide+kernel)
 match gs,hl,h,A with
 | [],_,h,A=>
  exact iQ 7 (by omega) [32] (.cons (bL 4 rfl) .nil) (by show (1:Nat)≤24;omega) (fun p hp=>by rw [List.mem_singleton.1 hp];exact A) (by decide+kernel) 138 (by decide)
 | [a],_,h,A=>
  refine iQ 7 (by omega) [32,14] (.cons (bL 4 rfl) (.cons (T 0 a (by omega) (h a (by simp))) .nil)) (by show (2:Nat)≤24;omega) (fun p hp=>?_) ?_ 138 (by decide)
  · rcases List.mem_cons.1 hp with rfl | hp
    · exact A
    · rw [List.mem_singleton.1 hp];exact O 0 a (by omega)
  · show Bd [⟨#[97,114,103,99]⟩,(txP (jD 0) a).nm]=true;rw [fu];decide+kernel
 | [a,b],_,h,A=>
  refine iQ 7 (by omega) [32,14,14] (.cons (bL 4 rfl) (.cons (T 0 a (by omega) (h a (by simp))) (.cons (T 1 b (by omega) (h b (by simp))) .nil))) (by show (3:Nat)≤24;omega) (fun p hp=>?_) ?_ 138 (by decide)
  · change p∈ [nuP _ _,txP (jD 0) a,txP (jD 1) b] at hp;simp only [List.mem_cons,List.not_mem_nil,or_false] at hp;rcases hp with rfl | rfl | rfl
    · exact A
    · exact O 0 a (by omega)
    · exact O 1 b (by omega)
  · show Bd [⟨#[97,114,103,99]⟩,(txP (jD 0) a).nm,(txP (jD 1) b).nm]=true;rw [fu,fu];decide+kernel
 | [a,b,c],_,h,A=>
  refine iQ 7 (by omega) [32,14,14,14] (.cons (bL 4 rfl) (.cons (T 0 a (by omega) (h a (by simp))) (.cons (T 1 b (by omega) (h b (by simp))) (.cons (T 2 c (by omega) (h c (by simp))) .nil)))) (by show (4:Nat)≤24;omega) (fun p hp=>?_) ?_ 138 (by decide)
  · change p∈ [nuP _ _,txP (jD 0) a,txP (jD 1) b,txP (jD 2) c] at hp;simp only [List.mem_cons,List.not_mem_nil,or_false] at hp;rcases hp with rfl | rfl | rfl | rfl
    · exact A
    · exact O 0 a (by omega)
    · exact O 1 b (by omega)
    · exact O 2 c (by omega)
  · show Bd [⟨#[97,114,103,99]⟩,(txP (jD 0) a).nm,(txP (jD 1) b).nm,(txP (jD 2) c).nm]=true;rw [fu,fu,fu];decide+kernel
 | [a,b,c,d],_,h,A=>
  refine iQ 7 (by omega) [32,14,14,14,14] (.cons (bL 4 rfl) (.cons (T 0 a (by omega) (h a (by simp))) (.cons (T 1 b (by omega) (h b (by simp))) (.cons (T 2 c (by omega) (h c (by simp))) (.cons (T 3 d (by omega) (h d (by simp))) .nil))))) (by show (5:Nat)≤24;omega) (fun p hp=>?_) ?_ 138 (by decide)
  · change p∈ [nuP _ _,txP (jD 0) a,txP (jD 1) b,txP (jD 2) c,txP (jD 3) d] at hp;simp only [List.mem_cons,List.not_mem_nil,or_false] at hp;rcases hp with rfl | rfl | rfl | rfl | rfl
    · exact A
    · exact O 0 a (by omega)
    · exact O 1 b (by omega)
    · exact O 2 c (by omega)
    · exact O 3 d (by omega)
  · show Bd [⟨#[97,114,103,99]⟩,(txP (jD 0) a).nm,(txP (jD 1) b).nm,(txP (jD 2) c).nm,(txP (jD 3) d).nm]=true;rw [fu,fu,fu,fu];decide+kernel
 | _ :: _ :: _ :: _ :: _ :: _,hl,_,_=>exact absurd hl (by simp)
def stR (s:Int) (r:Rc):Rc:= { r with se:=s }
inductive BdL:List Rc→Nat→Prop
 | nil:BdL [] 0
 | cons {r:Rc} {b:Nat} {L:List Rc} {c:Nat} :BdR r b→BdL L c→BdL (r :: L) (b+c)
theorem BdL.app {L M:List Rc} {b c:Nat} (h:BdL L b) (k:BdL M c):BdL (L ++ M) (b+c):=by
 induction h with
 | nil=>simpa using k
 | cons h _ ih=>rw [Nat.add_assoc];exact .cons h ih
theorem BdL.Nk {c:Nat} :∀ (L:List Rc),(∀ r∈L,BdR r c)→BdL L (c * L.length)
 | [],_=> .nil
 | r :: L,h=>by
  rw [List.length_cons,Nat.mul_succ,Nat.add_comm];exact .cons (h r (List.mem_cons_self ..)) (BdL.Nk L fun x hx=>h x (List.mem_cons_of_mem _ hx))
theorem BdL.o {L:List Rc} {b:Nat} (h:BdL L b):(∀ s,0≤s∧s≤1073741824→∀ r∈L.map (stR s),RcG r)∧kP (L.map (stR 1073741824))≤b∧kP (L.map (stR 0))≤kP (L.map (stR 1073741824)):=by
 induction h with
 | nil=>exact ⟨fun _ _ r hr=>(by cases hr),(by unfold kP;simp),(by unfold kP;simp)⟩
 | @cons r b L c h _ ih=>
  refine ⟨fun s hs x hx=>?_,?_,?_⟩
  · rw [List.map_cons] at hx;rcases List.mem_cons.1 hx with rfl | hx
    · exact h.g s hs
    · exact ih.1 s hs x hx
  · have h1:=h.b;have h2:=ih.2.1;unfold kP at *;rw [List.map_cons,List.map_cons,List.sum_cons];show oM { r with se:=1073741824 } +_≤_;omega
  · have h1:=h.m;have h2:=ih.2.2;unfold kP at *;rw [List.map_cons,List.map_cons,List.sum_cons,List.map_cons,List.map_cons,List.sum_cons];show oM { r with se:=0 } +_≤oM { r with se:=1073741824 } +_;omega
theorem Be (z:Int):(dE z).name.size≤8:=by
 unfold dE;split
 · exact (show (0:Nat)≤8 by omega)
 · exact (mV z.toNat).2.2.2.2
theorem Jj {d:ExD} {w:World} {lo:Nat} (hd:d.Ok w lo) {key cwd:ByteArray} (hk:key.size≤33) (hc:cwd.size≤586):(∃ b,BdL (evE d MT key cwd) b∧b≤8192)∧2≤(evE d MT key cwd).length∧(evE d MT key cwd).length≤5:=by
 have hi:=hd.hi.1;have h2:d.is.length≤2:=by have h6:=lD d.z;have h7:=ow d.z;omega
 have hS:=Jg (mkE d MT) key (Be _) hd.hp.1 hd.hp.2 hk;have hP:BdL (Cj d MT) (1860 * d.is.length):=by
   have:=BdL.Nk (c:=1860) (Cj d MT) (fun r hr=>by
     unfold Cj at hr;obtain ⟨i,hi,e⟩:=List.mem_mapIdx.1 hr;rw [← e];exact EM i _ _ (hd.hi.2 _ (List.getElem_mem hi)))
   rw [sU] at this;exact this
 have hC:∃ c,BdL (Ci d MT cwd) c∧c≤1226∧(Ci d MT cwd).length≤1:=by
   unfold Ci;split
   · exact ⟨0, .nil,by omega,by simp⟩
   · exact ⟨_, .cons (Je hc) .nil,by omega,by simp⟩
 obtain ⟨c,hC1,hC2,hC3⟩:=hC;have hE:BdL [(⟨1320,MT,0, []⟩:Rc)] (47+0):= .cons Jd .nil;have hR:∃ a,BdL (Ch d MT key) (3177+a)∧((d.z=1∧a=138)∨(d.z=19∧a≤100)∨a=0)∧1≤(Ch d MT key).length∧((Ch d MT key).length≤1∨((d.z=1∨d.z=19)∧(Ch d MT key).length≤2)):=by
   unfold Ch;by_cases z1:d.z=1
   · rw [if_pos z1,if_neg (by omega)];exact ⟨138, .cons hS (.cons (Ji d.gs hd.hg.1 hd.hg.2) .nil), .inl ⟨z1,rfl⟩,by simp, .inr ⟨.inl z1,by simp⟩⟩
   · rw [if_neg z1];by_cases z19:d.z=19∧d.gs.length=1
     · rw [if_pos z19];have hg0:(d.gs.headD ⟨#[]⟩).size≤4:=by
        cases hg:d.gs with
        | nil=>exact (show (0:Nat)≤4 by omega)
        | cons a l=>exact hd.hg.2 a (by rw [hg];simp)
       exact ⟨100, .cons hS (.cons (Jh _ _ hg0) .nil), .inr (.inl ⟨z19.1,by omega⟩),by simp, .inr ⟨.inr z19.1,by simp⟩⟩
     · rw [if_neg z19];exact ⟨0, .cons hS .nil, .inr (.inr rfl),by simp, .inl (by simp)⟩
 obtain ⟨a,hA1,hA2,hA3,hA4⟩:=hR;have q1:d.z=1→d.is.length≤1:=fun e=>by rw [e] at hi;exact Nat.le_trans hi (by decide+kernel)
 have q19:d.z=19→d.is.length≤0:=fun e=>by rw [e] at hi;exact Nat.le_trans hi (by decide+kernel)
 have hcl:d.is.length=0→(Ci d MT cwd).length=0:=fun e=>by unfold Ci;rw [if_pos e];rfl
 rw [qG];refine ⟨⟨_,((hA1.app hC1).app hP).app hE,?_⟩,?_,?_⟩
 · rcases hA2 with ⟨e,rfl⟩ | ⟨e,h⟩ | rfl
   · have:=q1 e;omega
   · have:=q19 e;omega
   · omega
 · simp only [List.length_append,List.length_cons,List.length_nil];omega
 · simp only [List.length_append,List.length_cons,List.length_nil,sU];rcases hA4 with h | ⟨e | e,h⟩
   · omega
   · have:=q1 e;omega
   · have:=q19 e;have:=hcl (by omega);omega
end Go.Proofs.YtollifnnpihfdaaGreatDoor
