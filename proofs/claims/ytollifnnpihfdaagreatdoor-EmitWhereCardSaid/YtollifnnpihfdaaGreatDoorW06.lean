import Derived.Test.YtollifnnpihfdaaGreatDoorW05
set_option maxRecDepth 100000
set_option maxHeartbeats 64000000
set_option linter.all false
namespace Go.Proofs.YtollifnnpihfdaaGreatDoor
open Go.RowKit
def okN (c:UInt8):Bool:= !((c.toNat:Int) == 0) && !((c.toNat:Int) == 47)
def dM (s:ByteArray):Bool:=decide (1≤s.size) && decide (s.size≤12) && !(s.toList == [46]) && !(s.toList == [46,46]) && s.data.toList.all okN
theorem nK (p:UInt8→Bool) (s:ByteArray) (k:Nat) (h:k < s.size) (hp:(s.data.toList.take k).all p=true) (hc:p s[k]=true):(s.data.toList.take (k+1)).all p=true:=by
 rw [rV s k h,List.all_append,hp];simp [hc]
theorem jY (p:UInt8→Bool) (s:ByteArray) (k:Nat) (h:k < s.size) (hc:p s[k]=false):s.data.toList.all p=false:=by
 rw [← Bool.not_eq_true];intro hall;have:=(List.all_eq_true.1 hall) s[k] (Array.mem_toList_iff.2 (Array.getElem_mem (xs:=s.data) h));rw [hc] at this;cases this
theorem su (s:ByteArray) (hs:s.size≤maxLen) (w:World):
  Calls Tryz.prog 197 #[.string s] w fun e w' =>e= .returned (.bool (dM s))∧w=w' :=by
 unfold maxLen at hs;have HP:=Hd (show dM s=(decide (1≤s.size) && decide (s.size≤12) && !(s.toList == [46]) && !(s.toList == [46,46]) && s.data.toList.all okN) from rfl);by_cases h1:1≤s.size;case neg=>
  have i1:(s.size:Int) < 1:=by omega
  have HR:=Hd (show dM s=false by rw [HP.o,decide_eq_false h1];rfl);go_in;go_wp2_with fail;go_ret;exact ⟨by rw [HR.o];rfl,rfl⟩
 case pos=>
 have i1:¬ (s.size:Int) < 1:=by omega
 by_cases h2:s.size≤12;case neg=>
  have i2:(12:Int) < (s.size:Int):=by omega
  have HR:=Hd (show dM s=false by rw [HP.o,decide_eq_false h2];simp);go_in;go_wp2_with fail;go_ret;exact ⟨by rw [HR.o];rfl,rfl⟩
 case pos=>
 have i2:¬ (12:Int) < (s.size:Int):=by omega
 cases h3:(s.toList == [46]);case true=>
  have HR:=Hd (show dM s=false by rw [HP.o,h3];simp);go_in;go_wp2_with fail;go_ret;exact ⟨by rw [HR.o];rfl,rfl⟩
 case false=>
 cases h4:(s.toList == [46,46]);case true=>
  have HR:=Hd (show dM s=false by rw [HP.o,h4];simp);go_in;go_wp2_with fail;go_ret;exact ⟨by rw [HR.o];rfl,rfl⟩
 case false=>
 have HA:=Hd (show dM s=s.data.toList.all okN by rw [HP.o,h3,h4,decide_eq_true h1,decide_eq_true h2];rfl);clear HP;go_in;go_wp2_with fail;clear h3 h4 i1 i2;go_loopw [3] (fun i wr=>∃ k:Nat,k≤s.size∧i= .int .i64 k∧wr=w∧Hid ((s.data.toList.take k).all okN=true)) (fun i _=>s.size - (intOf i).toNat);case atStart=>exact ⟨0,Nat.zero_le _,rfl,rfl,Hd rfl⟩
 case round=>
  obtain ⟨k,hk,rfl,rfl,nL⟩:=hrel;by_cases hlt:k < s.size
  · cases hz:((s[k].toNat:Int) == 0);case true=>
     have HR:=Hd (show dM s=false by rw [HA.o];exact jY okN s k hlt (by unfold okN;rw [hz];rfl));go_wp2_with fail;go_ret;exact ⟨by rw [HR.o];rfl,rfl⟩
    case false=>
    cases hy:((s[k].toNat:Int) == 47);case true=>
     have HR:=Hd (show dM s=false by rw [HA.o];exact jY okN s k hlt (by unfold okN;rw [hy];simp));go_wp2_with fail;go_ret;exact ⟨by rw [HR.o];rfl,rfl⟩
    case false=>
     have HK:=Hd (nK okN s k hlt nL.o (by unfold okN;rw [hz,hy];rfl));clear nL;go_wp2_with fail;go_roundw;case rel=>exact ⟨k+1,by omega,by go_num,by first | rfl | trivial,HK⟩
     case measure=>simp [intOf];omega
  · have i3:¬ (k:Int) < (s.size:Int):=(by omega);have HR:=Hd (show dM s=true by rw [HA.o];have:=nL.o;rwa [pR s k (by omega)] at this);go_wp2_with fail;go_ret;exact ⟨by rw [HR.o];rfl,rfl⟩
def ma (s:ByteArray):Bool:=s.data.toList.all (fun c=> !((c.toNat:Int) == 0)) && decide (1≤s.size) && decide (s.size≤128)
theorem Dn (s:ByteArray) (hs:s.size≤maxLen) (w:World):
  Calls Tryz.prog 262 #[.string s] w fun e w' =>e= .returned (.bool (ma s))∧w=w' :=by
 unfold maxLen at hs;have HP:=Hd (show ma s=(s.data.toList.all (fun c=> !((c.toNat:Int) == 0)) && decide (1≤s.size) && decide (s.size≤128)) from rfl);go_in;go_wp2_with fail;go_loopw [3] (fun i wr=>∃ k:Nat,k≤s.size∧i= .int .i64 k∧wr=w∧Hid ((s.data.toList.take k).all (fun c=> !((c.toNat:Int) == 0))=true)) (fun i _=>s.size - (intOf i).toNat);case atStart=>exact ⟨0,Nat.zero_le _,rfl,rfl,Hd rfl⟩
 case round=>
  obtain ⟨k,hk,rfl,rfl,nL⟩:=hrel;by_cases hlt:k < s.size
  · cases hz:((s[k].toNat:Int) == 0);case true=>
      have HR:=Hd (show ma s=false by rw [HP.o,jY _ s k hlt (by rw [hz];rfl)];rfl);go_wp2_with fail;go_ret;exact ⟨by rw [HR.o];rfl,rfl⟩
    case false=>
      have HK:=Hd (nK _ s k hlt nL.o (by rw [hz];rfl));clear nL;go_wp2_with fail;go_roundw;case rel=>exact ⟨k+1,by omega,by go_num,by first | rfl | trivial,HK⟩
      case measure=>simp [intOf];omega
  · have i3:¬ (k:Int) < (s.size:Int):=(by omega);have HR:=Hd (show ma s=(decide (1≤s.size) && decide (s.size≤128)) by rw [HP.o];have:=nL.o;rw [pR s k (by omega)] at this;rw [this];rfl);clear nL HP;by_cases h1:1≤s.size
    · have i1:(1:Int)≤(s.size:Int):=(by omega);by_cases h2:s.size≤128
      · have i2:(s.size:Int)≤128:=(by omega);have HR:=Hd (HR.o.trans (by rw [decide_eq_true h1,decide_eq_true h2];rfl:_=true));clear h1 h2;go_wp2_with fail;go_ret;exact ⟨by rw [HR.o];rfl,rfl⟩
      · have i2:¬ (s.size:Int)≤128:=(by omega);have HR:=Hd (HR.o.trans (by rw [decide_eq_true h1,decide_eq_false h2];rfl:_=false));clear h1 h2;go_wp2_with fail;go_ret;exact ⟨by rw [HR.o];rfl,rfl⟩
    · have i1:¬ (1:Int)≤(s.size:Int):=(by omega);have HR:=Hd (HR.o.trans (by rw [decide_eq_false h1];rfl:_=false));clear h1;go_wp2_with fail;go_ret;exact ⟨by rw [HR.o];rfl,rfl⟩
def kY (n:Nd):Bool:=
 !(decide (n.kind < 1) || decide (3 < n.kind) || decide (n.mode < 0) || decide (511 < n.mode) || decide (n.uid < 0) || decide (4294967295 < n.uid) || decide (n.gid < 0) || decide (4294967295 < n.gid)) && (if n.kind == 3 then ma n.tg else n.tg.toList.isEmpty)
theorem sw (n:Nd) (v:Value) (hs:n.tg.size≤maxLen) (w:World):
  Calls Tryz.prog 233 #[.agg (ndC n v)] w fun e w' =>e= .returned (.bool (kY n))∧Below w.heap.size w w' :=by
 have HP:=Hd (show kY n=(!(decide (n.kind < 1) || decide (3 < n.kind) || decide (n.mode < 0) || decide (511 < n.mode) || decide (n.uid < 0) || decide (4294967295 < n.uid) || decide (n.gid < 0) || decide (4294967295 < n.gid)) && (if n.kind == 3 then ma n.tg else n.tg.toList.isEmpty)) from rfl);have HB:=Hd ((Below.refl w.heap.size w).alloc (Nat.le_refl _) (.cells (ndC n v) 145));have HT:=Hd (Dn n.tg hs);have X:=Blk.new w (ndC n v) 145;have x1:=X.cell 1;have x2:=X.cell 2;have x3:=X.cell 3;have x4:=X.cell 4;have x6:=X.cell 6;clear X hs;obtain ⟨ino,kind,mode,uid,gid,par,tg,es⟩:=n;simp only at HP HT x1 x2 x3 x4 x6 ⊢;by_cases c0:kind < 1;case pos=>
  have HR:=Hd (HP.o.trans (by rw [decide_eq_true c0];simp:_=false));go_in;go_wp2_with fail;go_ret;exact ⟨by rw [HR.o];rfl,HB.o⟩
 case neg=>
 by_cases c1:3 < kind;case pos=>
  have HR:=Hd (HP.o.trans (by rw [decide_eq_true c1];simp:_=false));go_in;go_wp2_with fail;go_ret;exact ⟨by rw [HR.o];rfl,HB.o⟩
 case neg=>
 by_cases c2:mode < 0;case pos=>
  have HR:=Hd (HP.o.trans (by rw [decide_eq_true c2];simp:_=false));go_in;go_wp2_with fail;go_ret;exact ⟨by rw [HR.o];rfl,HB.o⟩
 case neg=>
 by_cases c3:511 < mode;case pos=>
  have HR:=Hd (HP.o.trans (by rw [decide_eq_true c3];simp:_=false));go_in;go_wp2_with fail;go_ret;exact ⟨by rw [HR.o];rfl,HB.o⟩
 case neg=>
 by_cases c4:uid < 0;case pos=>
  have HR:=Hd (HP.o.trans (by rw [decide_eq_true c4];simp:_=false));go_in;go_wp2_with fail;go_ret;exact ⟨by rw [HR.o];rfl,HB.o⟩
 case neg=>
 by_cases c5:4294967295 < uid;case pos=>
  have HR:=Hd (HP.o.trans (by rw [decide_eq_true c5];simp:_=false));go_in;go_wp2_with fail;go_ret;exact ⟨by rw [HR.o];rfl,HB.o⟩
 case neg=>
 by_cases c6:gid < 0;case pos=>
  have HR:=Hd (HP.o.trans (by rw [decide_eq_true c6];simp:_=false));go_in;go_wp2_with fail;go_ret;exact ⟨by rw [HR.o];rfl,HB.o⟩
 case neg=>
 by_cases c7:4294967295 < gid;case pos=>
  have HR:=Hd (HP.o.trans (by rw [decide_eq_true c7];simp:_=false));go_in;go_wp2_with fail;go_ret;exact ⟨by rw [HR.o];rfl,HB.o⟩
 case neg=>
 have HQ:=Hd (HP.o.trans (by rw [decide_eq_false c0,decide_eq_false c1,decide_eq_false c2,decide_eq_false c3,decide_eq_false c4,decide_eq_false c5,decide_eq_false c6,decide_eq_false c7];rfl:_=(if kind == 3 then ma tg else tg.toList.isEmpty)));clear HP;cases k3:(kind == 3);case true=>
  have HR:=Hd (HQ.o.trans (by rw [k3];rfl:_=ma tg));go_in;go_wp2_with fail;refine (HT.o _).mono ?_;rintro e w1 ⟨rfl,rfl⟩;go_wp2_with fail;go_ret;exact ⟨by rw [HR.o];rfl,HB.o⟩
 case false=>
  have HR:=Hd (HQ.o.trans (by rw [k3];rfl:_=tg.toList.isEmpty));cases he:tg.toList.isEmpty;case true=>
   have HR:=Hd (HR.o.trans he);go_in;go_wp2_with fail;go_ret;exact ⟨by rw [HR.o];rfl,HB.o⟩
  case false=>
   have HR:=Hd (HR.o.trans he);go_in;go_wp2_with fail;go_ret;exact ⟨by rw [HR.o];rfl,HB.o⟩
theorem jc (w:World) (cs ds:Array Value) (s t:TypeId):Below w.heap.size w ((w.alloc (.cells cs s)).alloc (.cells ds t)):=((Below.refl w.heap.size w).alloc (Nat.le_refl _) _).alloc (by simp) _
theorem Ib (f:List Dv) (dev ino:Int):bI f dev ino=match aF f dev ino with | some n=>n.kind == 2 | none=>false:=rfl
def gm (f:List Dv) (dev ino:Int):Bool:=match aF f dev ino with | some n=>(n.es.length:Int) == 0 | none=>true
def jH (f:List Dv) (dev ino:Int):Bool:=match aF f dev ino with | some n=>decide ((12:Int)≤n.es.length) | none=>false
def aY (f:List Dv) (dev ino:Int) (nm:ByteArray):Int:=
 match aF f dev ino with
 | none=>2
 | some n=>if n.kind == 2 then (if dM nm=true then 0 else 22) else 20
def nM (l:List En) (nm:ByteArray):Option En:=l.find? (fun x=>x.nm.toList == nm.toList)
def bY (f:List Dv) (dev ino:Int) (nm:ByteArray):Int×(Int×Int):=
 match aF f dev ino with
 | none=>(2,0,0)
 | some n=>if n.kind == 2 then (match nM n.es nm with | some x=>(0,dev,x.ino) | none=>(2,0,0)) else (20,0,0)
theorem sF {l:List En} {nm:ByteArray} (h:∀ k (hk:k < l.length),(l[k].nm.toList == nm.toList)=false):nM l nm=none:=by
 unfold nM;rw [List.find?_eq_none];intro x hx;obtain ⟨k,hk,rfl⟩:=List.getElem_of_mem hx;rw [h k hk];decide
theorem sG {l:List En} {nm:ByteArray} {k:Nat} (hk:k < l.length) (h:∀ j (hj:j < k),(l[j].nm.toList == nm.toList)=false) (he:(l[k].nm.toList == nm.toList)=true):nM l nm=some l[k]:=by
 unfold nM;rw [List.find?_eq_some_iff_getElem];exact ⟨he,k,hk,rfl,fun j hj=>by rw [h j hj];decide⟩
theorem jd (dev ino:Int) (ds:List Dm) (A:Option Addr) (n c:Nat) (hn:n=ds.length) (w:World) (h:bV w w.heap.size A ds):
  Calls Tryz.prog 67 #[fsV A n c,flV dev ino] w fun e w' =>e= .returned (.bool (bI (ds.map Dm.dv) dev ino))∧Below w.heap.size w w' :=by
 have B0:=Hd (jc w #[.slice A n c] #[.int .i64 dev, .int .i64 ino] 28 44);have HN:=Hd (bM dev ino ds A n c hn _ (h.below B0.o));have HD:=Hd (show bI (ds.map Dm.dv) dev ino=match aF (ds.map Dm.dv) dev ino with | some n=>n.kind == 2 | none=>false from rfl);clear h hn;go_in;go_wp2_with fail;refine HN.o.mono ?_;intro e w1 hp;cases hq:aF (ds.map Dm.dv) dev ino with
 | none=>
  rw [hq] at hp;obtain ⟨rfl,hb⟩:=hp;have B1:=Hd (B0.o.trans (hb.mono B0.o.size));have HR:=Hd (HD.o.trans (by rw [hq]));clear hb hq HN HD;go_wp2_with fail;go_ret;exact ⟨by rw [HR.o];rfl,B1.o.alloc B1.o.size _⟩
 | some nd=>
  rw [hq] at hp;obtain ⟨A2,c2,rfl,ho,hb,hsz⟩:=hp;have B1:=Hd (B0.o.trans (hb.mono B0.o.size));have HR:=Hd (HD.o.trans (by rw [hq]));clear hb hq HN HD ho hsz;go_wp2_with fail;go_ret;exact ⟨by rw [HR.o];rfl,B1.o.alloc B1.o.size _⟩
theorem sH (dev ino:Int) (ds:List Dm) (A:Option Addr) (n c:Nat) (hn:n=ds.length) (w:World) (h:bV w w.heap.size A ds):
  Calls Tryz.prog 231 #[fsV A n c,flV dev ino] w fun e w' =>e= .returned (.bool (gm (ds.map Dm.dv) dev ino))∧Below w.heap.size w w' :=by
 have B0:=Hd (jc w #[.slice A n c] #[.int .i64 dev, .int .i64 ino] 28 44);have HN:=Hd (bM dev ino ds A n c hn _ (h.below B0.o));have HD:=Hd (show gm (ds.map Dm.dv) dev ino=match aF (ds.map Dm.dv) dev ino with | some n=>(n.es.length:Int) == 0 | none=>true from rfl);clear h hn;go_in;go_wp2_with fail;refine HN.o.mono ?_;intro e w1 hp;cases hq:aF (ds.map Dm.dv) dev ino with
 | none=>
  rw [hq] at hp;obtain ⟨rfl,hb⟩:=hp;have B1:=Hd (B0.o.trans (hb.mono B0.o.size));have HR:=Hd (HD.o.trans (by rw [hq]));clear hb hq HN HD;go_wp2_with fail;go_ret;exact ⟨by rw [HR.o];rfl,B1.o.alloc B1.o.size _⟩
 | some nd=>
  rw [hq] at hp;obtain ⟨A2,c2,rfl,ho,hb,hsz⟩:=hp;have B1:=Hd (B0.o.trans (hb.mono B0.o.size));have HR:=Hd (HD.o.trans (by rw [hq]));clear hb hq HN HD ho hsz;go_wp2_with fail;go_ret;exact ⟨by rw [HR.o];rfl,B1.o.alloc B1.o.size _⟩
theorem sI (dev ino:Int) (ds:List Dm) (A:Option Addr) (n c:Nat) (hn:n=ds.length) (w:World) (h:bV w w.heap.size A ds):
  Calls Tryz.prog 227 #[fsV A n c,flV dev ino] w fun e w' =>e= .returned (.bool (jH (ds.map Dm.dv) dev ino))∧Below w.heap.size w w' :=by
 have B0:=Hd (jc w #[.slice A n c] #[.int .i64 dev, .int .i64 ino] 28 44);have HN:=Hd (bM dev ino ds A n c hn _ (h.below B0.o));have HD:=Hd (show jH (ds.map Dm.dv) dev ino=match aF (ds.map Dm.dv) dev ino with | some n=>decide ((12:Int)≤n.es.length) | none=>false from rfl);clear h hn;go_in;go_wp2_with fail;refine HN.o.mono ?_;intro e w1 hp;cases hq:aF (ds.map Dm.dv) dev ino with
 | none=>
  rw [hq] at hp;obtain ⟨rfl,hb⟩:=hp;have B1:=Hd (B0.o.trans (hb.mono B0.o.size));have HR:=Hd (HD.o.trans (by rw [hq]));clear hb hq HN HD;go_wp2_with fail;go_ret;exact ⟨by rw [HR.o];rfl,B1.o.alloc B1.o.size _⟩
 | some nd=>
  rw [hq] at hp;obtain ⟨A2,c2,rfl,ho,hb,hsz⟩:=hp;have B1:=Hd (B0.o.trans (hb.mono B0.o.size));have HR:=Hd (HD.o.trans (by rw [hq]));clear hb hq HN HD ho hsz;go_wp2_with fail;go_ret;exact ⟨by rw [HR.o];rfl,B1.o.alloc B1.o.size _⟩
theorem ji (dev ino:Int) (nm:ByteArray) (hm:nm.size≤maxLen) (ds:List Dm) (A:Option Addr) (n c:Nat) (hn:n=ds.length) (w:World) (h:bV w w.heap.size A ds):
  Calls Tryz.prog 226 #[fsV A n c,flV dev ino, .string nm] w fun e w' =>e= .returned (.int .i64 (aY (ds.map Dm.dv) dev ino nm))∧Below w.heap.size w w' :=by
 have B0:=Hd (jc w #[.slice A n c] #[.int .i64 dev, .int .i64 ino] 28 44);have HN:=Hd (bM dev ino ds A n c hn _ (h.below B0.o));have HD:=Hd (show aY (ds.map Dm.dv) dev ino nm=match aF (ds.map Dm.dv) dev ino with | none=>2 | some n=>if n.kind == 2 then (if dM nm=true then 0 else 22) else 20 from rfl);have HP:=Hd (su nm hm);clear h hn hm;go_in;go_wp2_with fail;refine HN.o.mono ?_;intro e w1 hp;cases hq:aF (ds.map Dm.dv) dev ino with
 | none=>
  rw [hq] at hp;obtain ⟨rfl,hb⟩:=hp;have B1:=Hd (B0.o.trans (hb.mono B0.o.size));have HR:=Hd (HD.o.trans (by rw [hq]));clear hb hq HN HD;go_wp2_with fail;go_ret;exact ⟨by rw [HR.o];rfl,B1.o.alloc B1.o.size _⟩
 | some nd=>
  rw [hq] at hp;obtain ⟨A2,c2,rfl,ho,hb,hsz⟩:=hp;have B1:=Hd (B0.o.trans (hb.mono B0.o.size));have HR:=Hd (HD.o.trans (by rw [hq]));clear hb hq HN HD ho hsz;cases hk:(nd.kind == 2) with
  | false=>
   have hk' :(nd.kind != 2)=true:=(by rw [bne,hk];rfl);have HR:=Hd (HR.o.trans (by simp only [hk];rfl:_=(20:Int)));go_wp2_with fail;go_ret;exact ⟨by rw [HR.o];rfl,B1.o.alloc B1.o.size _⟩
  | true=>
   have hk' :(nd.kind != 2)=false:=(by rw [bne,hk];rfl);have HR:=Hd (HR.o.trans (by simp only [hk];rfl:_=(if dM nm=true then (0:Int) else 22)));go_wp2_with fail;refine (HP.o _).mono ?_;rintro e w2 ⟨rfl,rfl⟩;cases hc:dM nm
   · have HR:=Hd (HR.o.trans (by rw [hc];rfl:_=(22:Int)));go_wp2_with fail;go_ret;exact ⟨by rw [HR.o];rfl,B1.o.alloc B1.o.size _⟩
   · have HR:=Hd (HR.o.trans (by rw [hc];rfl:_=(0:Int)));go_wp2_with fail;go_ret;exact ⟨by rw [HR.o];rfl,B1.o.alloc B1.o.size _⟩
theorem dD (d i:Int):(Tryz.prog.info? 44).map (·.size)=some (#[(.int .i64 d:Value), .int .i64 i]:Array Value).size:=by show _=some 2;kernel_rfl
theorem bQ (d i:Int):(#[(.int .i64 d:Value), .int .i64 i]:Array Value).all (·.oneCell')=true:=by simp [Value.oneCell']
theorem gH {fn:Func} {i j:Nat} (h:fn.results=#[.cell i 44, .tmp j]) (tmps:Array Value) (w:World) (g:Nat) (d k:Int) (hp:tmps.getD i undef= .pointer (some ⟨g,0,none⟩)) (hg:Blk w g 44 #[.int .i64 d, .int .i64 k]):
  (results fn tmps).run Tryz.prog w= .ok (.tuple #[flV d k,tmps.getD j undef]) w:=by
 have hp' :tmps[i]?.getD undef= .pointer (some ⟨g,0,none⟩):=by simpa using hp
 simp [results,h,hp',asAddr,run_loadVar_row w g 44 44 #[.int .i64 d, .int .i64 k] (0,0) _ hg Tryz.underlying44 rfl (dD d k)]
theorem aV {w:World} {p q:Addr} {v:Value} (h:q.block≠p.block):(w.setCell p v).cell? q=w.cell? q:=World.cell?_of_block (heap_setCell_other w p q.block v h)
def xg (r:Int×(Int×Int)) (w:World) (e:Ending) (w' :World):Prop:=e= .returned (.tuple #[flV r.2.1 r.2.2, .int .i64 r.1])∧Below w.heap.size w w'
theorem fq (dev ino:Int) (nm:ByteArray) (ds:List Dm) (A:Option Addr) (n c:Nat) (hn:n=ds.length) (w:World) (h:bV w w.heap.size A ds):
  Calls Tryz.prog 196 #[fsV A n c,flV dev ino, .string nm] w (xg (bY (ds.map Dm.dv) dev ino nm) w):=by
 have hs1:(w.alloc (.cells #[.slice A n c] 28)).heap.size=w.heap.size+1:=by simp
 have hs2:((w.alloc (.cells #[.slice A n c] 28)).alloc (.cells #[.int .i64 dev, .int .i64 ino] 44)).heap.size=w.heap.size+1+1:=by simp
 have B0:=Hd ((jc w #[.slice A n c] #[.int .i64 dev, .int .i64 ino] 28 44).alloc (by rw [hs2];omega) (.cells #[.int .i64 0, .int .i64 0] 44));have R0:=Hd (show Blk (((w.alloc (.cells #[.slice A n c] 28)).alloc (.cells #[.int .i64 dev, .int .i64 ino] 44)).alloc (.cells #[.int .i64 0, .int .i64 0] 44)) (w.heap.size+1+1) 44 #[.int .i64 0, .int .i64 0] by
  have h:=Blk.new ((w.alloc (.cells #[.slice A n c] 28)).alloc (.cells #[.int .i64 dev, .int .i64 ino] 44)) #[.int .i64 0, .int .i64 0] 44;rw [hs2] at h;exact h)
 have U0:=Hd (show Blk (((w.alloc (.cells #[.slice A n c] 28)).alloc (.cells #[.int .i64 dev, .int .i64 ino] 44)).alloc (.cells #[.int .i64 0, .int .i64 0] 44)) (w.heap.size+1) 44 #[.int .i64 dev, .int .i64 ino] by
  have h:=(Blk.new (w.alloc (.cells #[.slice A n c] 28)) #[.int .i64 dev, .int .i64 ino] 44).alloc (.cells #[.int .i64 0, .int .i64 0] 44);rw [hs1] at h;exact h)
 have HN:=Hd (bM dev ino ds A n c hn _ (h.below B0.o));have HD:=Hd (show bY (ds.map Dm.dv) dev ino nm=match aF (ds.map Dm.dv) dev ino with | none=>(2,0,0) | some n=>if n.kind == 2 then (match nM n.es nm with | some x=>(0,dev,x.ino) | none=>(2,0,0)) else (20,0,0) from rfl);clear h hn hs1 hs2;go_in;go_wp2_with fail;generalize (((w.alloc (.cells #[.slice A n c] 28)).alloc (.cells #[.int .i64 dev, .int .i64 ino] 44)).alloc (.cells #[.int .i64 0, .int .i64 0] 44))=w0 at *;refine HN.o.mono ?_;intro e w1 hp;cases hq:aF (ds.map Dm.dv) dev ino with
 | none=>
  rw [hq] at hp;obtain ⟨rfl,hb⟩:=hp;have B1:=Hd ((B0.o.trans (hb.mono B0.o.size)).alloc (B0.o.trans (hb.mono B0.o.size)).size (.cells ndZ 145));have R1:=Hd ((R0.o.below hb).alloc (.cells ndZ 145));have HR:=Hd (HD.o.trans (by rw [hq]));clear hb hq HN HD R0 U0 B0;go_wp2_with ((with_reducible refine ae ?_ 44 (.tmp 6) (.tmp 19) ?_ R1.o #[.int .i64 0, .int .i64 0] ?_ ?_ ?_ ?_ ?_ ?_);(iterate 4 rfl);(exact dD _ _);rfl;(exact bQ _ _));refine bodyPost_ret (gH (fn:=Tryz.f196) rfl _ _ (w.heap.size+1+1) 0 0 rfl (Blk.row R1.o _)) rfl ?_;rw [HR.o];exact ⟨rfl,ai B1.o (by omega) _⟩
 | some nd=>
  rw [hq] at hp;obtain ⟨A2,c2,rfl,ho,hb,hsz⟩:=hp;have B1:=Hd ((B0.o.trans (hb.mono B0.o.size)).alloc (B0.o.trans (hb.mono B0.o.size)).size (.cells (ndC nd (.slice A2 nd.es.length c2)) 145));have R1:=Hd ((R0.o.below hb).alloc (.cells (ndC nd (.slice A2 nd.es.length c2)) 145));have U1:=Hd ((U0.o.below hb).alloc (.cells (ndC nd (.slice A2 nd.es.length c2)) 145));have X1:=Hd (Blk.new w1 (ndC nd (.slice A2 nd.es.length c2)) 145);have HLT:=Hd (show w.heap.size+1+1 < w1.heap.size from (R0.o.below hb).lt);obtain ⟨A3,c3,e3,hat⟩:=ho.at;injection e3 with e3 e4 e5;subst e3;have HGE:=Hd (fun r (e:A2.map (·.block)=some r)=>ho.ge r (by cases A2 with | none=>cases e | some a=>exact e));have HW0:=Hd R0.o.lt;have HAT:=Hd (hat.keep ((Below.refl w1.heap.size w1).alloc (Nat.le_refl _) (.cells (ndC nd (.slice A2 nd.es.length c2)) 145)) (Nat.le_refl _));have HR:=Hd (HD.o.trans (by rw [hq]));have HSZ:=Hd hsz.1;clear hb hq HN HD ho R0 U0 B0 hat e4 e5 hsz;cases hk:(nd.kind == 2) with
  | false=>
   have hk' :(nd.kind != 2)=true:=(by rw [bne,hk];rfl);have HR:=Hd (HR.o.trans (by simp only [hk];rfl:_=((20,0,0):Int×(Int×Int))));go_wp2_with ((with_reducible refine ae ?_ 44 (.tmp 6) (.tmp 23) ?_ R1.o #[.int .i64 0, .int .i64 0] ?_ ?_ ?_ ?_ ?_ ?_);(iterate 4 rfl);(exact dD _ _);rfl;(exact bQ _ _));refine bodyPost_ret (gH (fn:=Tryz.f196) rfl _ _ (w.heap.size+1+1) 0 0 rfl (Blk.row R1.o _)) rfl ?_;rw [HR.o];exact ⟨rfl,ai B1.o (by omega) _⟩
  | true=>
   have hk' :(nd.kind != 2)=false:=(by rw [bne,hk];rfl);have HR:=Hd (HR.o.trans (by simp only [hk];rfl:_=match nM nd.es nm with | some x=>((0,dev,x.ino):Int×(Int×Int)) | none=>(2,0,0)));go_wp2_with fail;generalize w1.alloc (.cells (ndC nd (.slice A2 nd.es.length c2)) 145)=w2 at *;go_loopw [10] (fun i wr=>∃ k:Nat,k≤nd.es.length∧i= .int .i64 k∧wr=w2∧Hid (∀ q (hq:q < k) (hl:q < nd.es.length),(nd.es[q].nm.toList == nm.toList)=false)) (fun i _=>nd.es.length - (intOf i).toNat);case atStart=>exact ⟨0,Nat.zero_le _,rfl,rfl,Hd (fun q hq=>by omega)⟩
   case round=>
    obtain ⟨k,hkl,rfl,rfl,hno⟩:=hrel;have x7:=X1.o.cell 7;by_cases hlt:k < nd.es.length;case pos=>
     have k1:(k:Int) < (nd.es.length:Int):=(by omega);have k2:(0:Int)≤(k:Int):=(by omega);have k3:=HSZ.o;have w1' :wrap64 ((k:Int)+1)=(k:Int)+1:=IntWalk.wrap64_in _ (by omega);have w2' :IntKind.i64.wrap ((k:Int)+1)=(k:Int)+1:=IntWalk.i64_in _ (by omega);obtain ⟨ad,rfl,hab,hcx⟩:=HAT.o k hlt;obtain ⟨s0,s1⟩:=fJ (a:=ad.add (k * 2)) hcx;have HX:=Hd (fun h:(nd.es[k].nm.toList == nm.toList)=true=>sG hlt (fun q hq=>hno.o q hq (by omega)) h);have HY:=Hd (fun h:(nd.es[k].nm.toList == nm.toList)=false=>show ∀ q (hq:q < k+1) (hl:q < nd.es.length),(nd.es[q].nm.toList == nm.toList)=false from fun q hq hl=>by
      by_cases he:q=k
      · subst he;exact h
      · exact hno.o q (by omega) hl)
     have hge:w0.heap.size≤ad.block:=HGE.o ad.block rfl;clear hcx hno;generalize nd.es[k]=x at *;cases hb:(x.nm.toList == nm.toList) with
     | false=>
      have HZ:=Hd (HY.o hb);go_wp2_with fail;go_roundw;case rel=>exact ⟨k+1,by omega,by go_num,by first | rfl | trivial,HZ⟩
      case measure=>simp [intOf];omega
     | true=>
      have HZ:=Hd (HX.o hb);have HR:=Hd (HR.o.trans (by rw [HZ.o]));have u0:=U1.o.cell 0;go_upto_region 10 with fail;have hS0:wr.drew.cell? ⟨w.heap.size+1,0,none⟩=some (.int .i64 dev)∧wr.drew.cell? ⟨w1.heap.size,7,none⟩=some (.slice (some ad) nd.es.length c2)∧wr.drew.cell? ⟨(ad.add (k * 2)).block,(ad.add (k * 2)).off+1,none⟩=some (.int .i64 x.ino):=⟨u0,x7,s1⟩;refine wp_region_held_drew (S:=(fun W=>W.cell? ⟨w.heap.size+1,0,none⟩=some (.int .i64 dev)∧W.cell? ⟨w1.heap.size,7,none⟩=some (.slice (some ad) nd.es.length c2)∧W.cell? ⟨(ad.add (k * 2)).block,(ad.add (k * 2)).off+1,none⟩=some (.int .i64 x.ino))) (by kernel_rfl) hS0 (fun hHeld=>?_);refine tk hHeld 0 ?_ ?_ (tk hHeld 1 ?_ ?_ (tk hHeld 2 ?_ ?_ (tk hHeld 3 ?_ ?_ (tk hHeld 4 ?_ ?_ (tk hHeld 5 ?_ ?_ (tk hHeld 6 ?_ ?_ (tk hHeld 7 ?_ ?_ (tk hHeld 8 ?_ ?_ ?_))))))));iterate 9
        rotate_left
        · intro W hSw;obtain ⟨y0,y1,y2⟩:=hSw;go_simp;try (with_reducible rfl)
      have r0:=R1.o.cell 0;have r1:=R1.o.cell 1;have f0:=R1.o.free 0;have f1:=R1.o.free 1;have hS1:∀ u v:Value,((wr.setCell ⟨w.heap.size+1+1,0,none⟩ u).setCell ⟨w.heap.size+1+1,1,none⟩ v).drew.cell? ⟨w.heap.size+1,0,none⟩=some (.int .i64 dev)∧((wr.setCell ⟨w.heap.size+1+1,0,none⟩ u).setCell ⟨w.heap.size+1+1,1,none⟩ v).drew.cell? ⟨w1.heap.size,7,none⟩=some (.slice (some ad) nd.es.length c2)∧((wr.setCell ⟨w.heap.size+1+1,0,none⟩ u).setCell ⟨w.heap.size+1+1,1,none⟩ v).drew.cell? ⟨(ad.add (k * 2)).block,(ad.add (k * 2)).off+1,none⟩=some (.int .i64 x.ino):=fun u v=>by
        have h1:=HLT.o;have h2:=HW0.o;have h3:(ad.add (k * 2)).block=ad.block:=av ad _;refine ⟨?_,?_,?_⟩
        · show ((wr.setCell ⟨w.heap.size+1+1,0,none⟩ u).setCell ⟨w.heap.size+1+1,1,none⟩ v).cell? _=_;rw [aV (by show w.heap.size+1≠w.heap.size+1+1;omega),aV (by show w.heap.size+1≠w.heap.size+1+1;omega)];exact u0
        · show ((wr.setCell ⟨w.heap.size+1+1,0,none⟩ u).setCell ⟨w.heap.size+1+1,1,none⟩ v).cell? _=_;rw [aV (by show w1.heap.size≠w.heap.size+1+1;omega),aV (by show w1.heap.size≠w.heap.size+1+1;omega)];exact x7
        · show ((wr.setCell ⟨w.heap.size+1+1,0,none⟩ u).setCell ⟨w.heap.size+1+1,1,none⟩ v).cell? _=_;rw [aV (by show (ad.add (k * 2)).block≠w.heap.size+1+1;omega),aV (by show (ad.add (k * 2)).block≠w.heap.size+1+1;omega)];exact s1
      refine rdy1 9 (fun K hK=>?_);go_simp;refine hK.o _ _ (hS1 _ _) (fun hHeld=>?_);clear hK K;refine tk hHeld 10 ?_ ?_ ?_;rotate_left
      · intro W hSw;go_simp;try (with_reducible rfl)
      refine wpAnyH_done (by kernel_rfl) ?_ _;go_wp2_with fail;refine bodyPost_ret (gH (fn:=Tryz.f196) rfl _ _ (w.heap.size+1+1) dev x.ino rfl (show Blk ((wr.setCell ⟨w.heap.size+1+1,0,none⟩ (.int .i64 dev)).setCell ⟨w.heap.size+1+1,1,none⟩ (.int .i64 x.ino)).drew (w.heap.size+1+1) 44 #[.int .i64 dev, .int .i64 x.ino] from (R1.o.put 0 (.int .i64 dev)).put 1 (.int .i64 x.ino))) rfl ?_;rw [HR.o];exact ⟨rfl,((B1.o.setCell (p:=⟨w.heap.size+1+1,0,none⟩) (by show w.heap.size≤w.heap.size+1+1;omega) _).setCell (p:=⟨w.heap.size+1+1,1,none⟩) (by show w.heap.size≤w.heap.size+1+1;omega) _).drew⟩
    case neg=>
     have k1:¬ (k:Int) < (nd.es.length:Int):=(by omega);have HR:=Hd (HR.o.trans (by rw [sF (fun q hq=>hno.o q (by omega) hq)]));go_wp2_with ((with_reducible refine ae ?_ 44 (.tmp 6) (.tmp 48) ?_ R1.o #[.int .i64 0, .int .i64 0] ?_ ?_ ?_ ?_ ?_ ?_);(iterate 4 rfl);(exact dD _ _);rfl;(exact bQ _ _));refine bodyPost_ret (gH (fn:=Tryz.f196) rfl _ _ (w.heap.size+1+1) 0 0 rfl (Blk.row R1.o _)) rfl ?_;rw [HR.o];exact ⟨rfl,ai B1.o (by omega) _⟩
end Go.Proofs.YtollifnnpihfdaaGreatDoor
