import Derived.Test.YtollifnnpihfdaaGreatDoorB03
set_option maxRecDepth 100000
set_option maxHeartbeats 64000000
set_option linter.all false
namespace Go.Proofs.YtollifnnpihfdaaGreatDoor
open Go.RowKit
def okN (c:UInt8):Bool:= !((c.toNat:Int) == 0) && !((c.toNat:Int) == 47)
def dS (s:ByteArray):Bool:=decide (1≤s.size) && decide (s.size≤12) && !(s.toList == [46]) && !(s.toList == [46,46]) && s.data.toList.all okN
theorem o6 (p:UInt8→Bool) (s:ByteArray) (k:Nat) (h:k < s.size) (hp:(s.data.toList.take k).all p=true) (hc:p s[k]=true):(s.data.toList.take (k+1)).all p=true:=by
 rw [gW s k h,List.all_append,hp];simp [hc]
theorem kS (p:UInt8→Bool) (s:ByteArray) (k:Nat) (h:k < s.size) (hc:p s[k]=false):s.data.toList.all p=false:=by
 rw [← Bool.not_eq_true];intro hall;have:=(List.all_eq_true.1 hall) s[k] (Array.mem_toList_iff.2 (Array.getElem_mem (xs:=s.data) h));rw [hc] at this;cases this
theorem uO (s:ByteArray) (hs:s.size≤maxLen) (w:World):
  Calls Tryz.prog 197 #[.string s] w fun e w' =>e= .returned (.bool (dS s))∧w=w' :=by
 unfold maxLen at hs;have HP:=Hd (show dS s=(decide (1≤s.size) && decide (s.size≤12) && !(s.toList == [46]) && !(s.toList == [46,46]) && s.data.toList.all okN) from rfl);by_cases h1:1≤s.size;case neg=>
  have i1:(s.size:Int) < 1:=by omega
  have HR:=Hd (show dS s=false by rw [HP.o,decide_eq_false h1];rfl);go_in;go_wp2_with fail;go_ret;exact ⟨by rw [HR.o];rfl,rfl⟩
 case pos=>
 have i1:¬ (s.size:Int) < 1:=by omega
 by_cases h2:s.size≤12;case neg=>
  have i2:(12:Int) < (s.size:Int):=by omega
  have HR:=Hd (show dS s=false by rw [HP.o,decide_eq_false h2];simp);go_in;go_wp2_with fail;go_ret;exact ⟨by rw [HR.o];rfl,rfl⟩
 case pos=>
 have i2:¬ (12:Int) < (s.size:Int):=by omega
 cases h3:(s.toList == [46]);case true=>
  have HR:=Hd (show dS s=false by rw [HP.o,h3];simp);go_in;go_wp2_with fail;go_ret;exact ⟨by rw [HR.o];rfl,rfl⟩
 case false=>
 cases h4:(s.toList == [46,46]);case true=>
  have HR:=Hd (show dS s=false by rw [HP.o,h4];simp);go_in;go_wp2_with fail;go_ret;exact ⟨by rw [HR.o];rfl,rfl⟩
 case false=>
 have HA:=Hd (show dS s=s.data.toList.all okN by rw [HP.o,h3,h4,decide_eq_true h1,decide_eq_true h2];rfl);clear HP;go_in;go_wp2_with fail;clear h3 h4 i1 i2;go_loopw [3] (fun i wr=>∃ k:Nat,k≤s.size∧i= .int .i64 k∧wr=w∧Hid ((s.data.toList.take k).all okN=true)) (fun i _=>s.size - (intOf i).toNat);case atStart=>exact ⟨0,Nat.zero_le _,rfl,rfl,Hd rfl⟩
 case round=>
  obtain ⟨k,hk,rfl,rfl,eU⟩:=hrel;by_cases hlt:k < s.size
  · cases hz:((s[k].toNat:Int) == 0);case true=>
     have HR:=Hd (show dS s=false by rw [HA.o];exact kS okN s k hlt (by unfold okN;rw [hz];rfl));go_wp2_with fail;go_ret;exact ⟨by rw [HR.o];rfl,rfl⟩
    case false=>
    cases hy:((s[k].toNat:Int) == 47);case true=>
     have HR:=Hd (show dS s=false by rw [HA.o];exact kS okN s k hlt (by unfold okN;rw [hy];simp));go_wp2_with fail;go_ret;exact ⟨by rw [HR.o];rfl,rfl⟩
    case false=>
     have HK:=Hd (o6 okN s k hlt eU.o (by unfold okN;rw [hz,hy];rfl));clear eU;go_wp2_with fail;go_roundw;case rel=>exact ⟨k+1,by omega,by go_num,by first | rfl | trivial,HK⟩
     case measure=>simp [intOf];omega
  · have i3:¬ (k:Int) < (s.size:Int):=(by omega);have HR:=Hd (show dS s=true by rw [HA.o];have:=eU.o;rwa [gm s k (by omega)] at this);go_wp2_with fail;go_ret;exact ⟨by rw [HR.o];rfl,rfl⟩
def nE (s:ByteArray):Bool:=s.data.toList.all (fun c=> !((c.toNat:Int) == 0)) && decide (1≤s.size) && decide (s.size≤128)
theorem Fs (s:ByteArray) (hs:s.size≤maxLen) (w:World):
  Calls Tryz.prog 262 #[.string s] w fun e w' =>e= .returned (.bool (nE s))∧w=w' :=by
 unfold maxLen at hs;have HP:=Hd (show nE s=(s.data.toList.all (fun c=> !((c.toNat:Int) == 0)) && decide (1≤s.size) && decide (s.size≤128)) from rfl);go_in;go_wp2_with fail;go_loopw [3] (fun i wr=>∃ k:Nat,k≤s.size∧i= .int .i64 k∧wr=w∧Hid ((s.data.toList.take k).all (fun c=> !((c.toNat:Int) == 0))=true)) (fun i _=>s.size - (intOf i).toNat);case atStart=>exact ⟨0,Nat.zero_le _,rfl,rfl,Hd rfl⟩
 case round=>
  obtain ⟨k,hk,rfl,rfl,eU⟩:=hrel;by_cases hlt:k < s.size
  · cases hz:((s[k].toNat:Int) == 0);case true=>
      have HR:=Hd (show nE s=false by rw [HP.o,kS _ s k hlt (by rw [hz];rfl)];rfl);go_wp2_with fail;go_ret;exact ⟨by rw [HR.o];rfl,rfl⟩
    case false=>
      have HK:=Hd (o6 _ s k hlt eU.o (by rw [hz];rfl));clear eU;go_wp2_with fail;go_roundw;case rel=>exact ⟨k+1,by omega,by go_num,by first | rfl | trivial,HK⟩
      case measure=>simp [intOf];omega
  · have i3:¬ (k:Int) < (s.size:Int):=(by omega);have HR:=Hd (show nE s=(decide (1≤s.size) && decide (s.size≤128)) by rw [HP.o];have:=eU.o;rw [gm s k (by omega)] at this;rw [this];rfl);clear eU HP;by_cases h1:1≤s.size
    · have i1:(1:Int)≤(s.size:Int):=(by omega);by_cases h2:s.size≤128
      · have i2:(s.size:Int)≤128:=(by omega);have HR:=Hd (HR.o.trans (by rw [decide_eq_true h1,decide_eq_true h2];rfl:_=true));clear h1 h2;go_wp2_with fail;go_ret;exact ⟨by rw [HR.o];rfl,rfl⟩
      · have i2:¬ (s.size:Int)≤128:=(by omega);have HR:=Hd (HR.o.trans (by rw [decide_eq_true h1,decide_eq_false h2];rfl:_=false));clear h1 h2;go_wp2_with fail;go_ret;exact ⟨by rw [HR.o];rfl,rfl⟩
    · have i1:¬ (1:Int)≤(s.size:Int):=(by omega);have HR:=Hd (HR.o.trans (by rw [decide_eq_false h1];rfl:_=false));clear h1;go_wp2_with fail;go_ret;exact ⟨by rw [HR.o];rfl,rfl⟩
def mg (n:Nd):Bool:=
 !(decide (n.kind < 1) || decide (3 < n.kind) || decide (n.mode < 0) || decide (511 < n.mode) || decide (n.uid < 0) || decide (4294967295 < n.uid) || decide (n.gid < 0) || decide (4294967295 < n.gid)) && (if n.kind == 3 then nE n.tg else n.tg.toList.isEmpty)
theorem uP (n:Nd) (v:Value) (hs:n.tg.size≤maxLen) (w:World):
  Calls Tryz.prog 233 #[.agg (ndC n v)] w fun e w' =>e= .returned (.bool (mg n))∧Below w.heap.size w w' :=by
 have HP:=Hd (show mg n=(!(decide (n.kind < 1) || decide (3 < n.kind) || decide (n.mode < 0) || decide (511 < n.mode) || decide (n.uid < 0) || decide (4294967295 < n.uid) || decide (n.gid < 0) || decide (4294967295 < n.gid)) && (if n.kind == 3 then nE n.tg else n.tg.toList.isEmpty)) from rfl);have HB:=Hd ((Below.refl w.heap.size w).alloc (Nat.le_refl _) (.cells (ndC n v) 145));have HT:=Hd (Fs n.tg hs);have X:=Blk.new w (ndC n v) 145;have x1:=X.cell 1;have x2:=X.cell 2;have x3:=X.cell 3;have x4:=X.cell 4;have x6:=X.cell 6;clear X hs;obtain ⟨ino,kind,mode,uid,gid,par,tg,es⟩:=n;simp only at HP HT x1 x2 x3 x4 x6 ⊢;by_cases c0:kind < 1;case pos=>
  have HR:=Hd (HP.o.trans (by rw [decide_eq_true c0];simp:_=false));go_in;go_wp2_with fail;go_ret;exact ⟨by rw [HR.o];rfl,HB.o⟩
 case neg=>
 by_cases c1:3 < kind;case pos=>
  have HR:=Hd (HP.o.trans (by rw [decide_eq_true c1];simp:_=false));go_in;go_wp2_with fail;go_ret;exact ⟨by rw [HR.o];rfl,HB.o⟩
 case neg=>
 by_cases c2:mode < 0;case pos=>
  have HR:=Hd (HP.o.trans (by rw [decide_eq_true c2];simp:_=false));go_in;go_wp2_with fail;go_ret;exact ⟨by rw [HR.o];rfl,HB.o⟩
 case neg=>
 by_cases c3:511 < mode;case pos=>
  have HR:=Hd (HP.o.trans (by rw [decide_eq_true c3];simp:_=false));go_in;go_wp2_with fail;go_ret;exact ⟨by rw [HR.o];rfl,HB.o⟩
 case neg=>
 by_cases c4:uid < 0;case pos=>
  have HR:=Hd (HP.o.trans (by rw [decide_eq_true c4];simp:_=false));go_in;go_wp2_with fail;go_ret;exact ⟨by rw [HR.o];rfl,HB.o⟩
 case neg=>
 by_cases c5:4294967295 < uid;case pos=>
  have HR:=Hd (HP.o.trans (by rw [decide_eq_true c5];simp:_=false));go_in;go_wp2_with fail;go_ret;exact ⟨by rw [HR.o];rfl,HB.o⟩
 case neg=>
 by_cases c6:gid < 0;case pos=>
  have HR:=Hd (HP.o.trans (by rw [decide_eq_true c6];simp:_=false));go_in;go_wp2_with fail;go_ret;exact ⟨by rw [HR.o];rfl,HB.o⟩
 case neg=>
 by_cases c7:4294967295 < gid;case pos=>
  have HR:=Hd (HP.o.trans (by rw [decide_eq_true c7];simp:_=false));go_in;go_wp2_with fail;go_ret;exact ⟨by rw [HR.o];rfl,HB.o⟩
 case neg=>
 have HQ:=Hd (HP.o.trans (by rw [decide_eq_false c0,decide_eq_false c1,decide_eq_false c2,decide_eq_false c3,decide_eq_false c4,decide_eq_false c5,decide_eq_false c6,decide_eq_false c7];rfl:_=(if kind == 3 then nE tg else tg.toList.isEmpty)));clear HP;cases k3:(kind == 3);case true=>
  have HR:=Hd (HQ.o.trans (by rw [k3];rfl:_=nE tg));go_in;go_wp2_with fail;refine (HT.o _).mono ?_;rintro e w1 ⟨rfl,rfl⟩;go_wp2_with fail;go_ret;exact ⟨by rw [HR.o];rfl,HB.o⟩
 case false=>
  have HR:=Hd (HQ.o.trans (by rw [k3];rfl:_=tg.toList.isEmpty));cases he:tg.toList.isEmpty;case true=>
   have HR:=Hd (HR.o.trans he);go_in;go_wp2_with fail;go_ret;exact ⟨by rw [HR.o];rfl,HB.o⟩
  case false=>
   have HR:=Hd (HR.o.trans he);go_in;go_wp2_with fail;go_ret;exact ⟨by rw [HR.o];rfl,HB.o⟩
end Go.Proofs.YtollifnnpihfdaaGreatDoor
