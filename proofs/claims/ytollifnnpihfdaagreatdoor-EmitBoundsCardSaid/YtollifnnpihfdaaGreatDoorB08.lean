import Derived.Test.YtollifnnpihfdaaGreatDoorB05
set_option maxRecDepth 100000
set_option maxHeartbeats 64000000
set_option linter.all false
namespace Go.Proofs.YtollifnnpihfdaaGreatDoor
open Go.RowKit
def lK (l:List En) (ino:Int):Nat:=l.countP (fun x=>x.ino == ino)
def jc (l:List Nd) (ino:Int):Nat:=(l.map (fun n=>lK n.es ino)).sum
def iI (f:List Dv) (dev ino:Int):Int:=
 match fA f dev with
 | none=>0
 | some d=>match jh d.ns ino with | none=>0 | some _=>(jc d.ns ino:Int)
def dY (l:List En):List (List UInt8):=l.map (fun x=>x.nm.toList)
inductive fG (ns:List Nd):Nat→Int→Prop
 | root:fG ns 0 1
 | up {n:Nd} {k:Nat} :n∈ns→n.kind=2→n.ino≠1→fG ns k n.par→fG ns (k+1) n.ino
structure DOk (Z:Int→Prop) (d:Dv):Prop where
 few:d.ns.length≤16
 nx2:2≤d.nx
 nxm:d.nx≤1073741824
 root:∃ n r,d.ns=n :: r∧n.ino=1∧n.kind=2
 uniq:(d.ns.map (·.ino)).Nodup
 rng:∀ n∈d.ns,1≤n.ino∧n.ino < d.nx
 tgs:∀ n∈d.ns,n.tg.size≤128
 cu:∀ n∈d.ns,n.es.length≤12∧(dY n.es).Nodup∧∀ e∈n.es,2≤e.ino∧e.ino < d.nx∧dS e.nm=true
 link:∀ n∈d.ns,n.kind=2→∀ p∈d.ns,∀ e∈p.es,e.ino=n.ino→¬ Z n.ino∧p.ino=n.par∧∀ x∈p.es,x.ino=n.ino→x.nm.toList=e.nm.toList
 par:∀ n∈d.ns,n.kind=2→n.ino≠1→∃ p∈d.ns,p.ino=n.par∧p.kind=2∧(¬ Z n.ino→∃ e∈p.es,e.ino=n.ino)
 reach:∀ n∈d.ns,n.kind=2→∃ k,fG d.ns k n.ino
abbrev NoZ:Int→Prop:=fun _=>False
theorem bS:∀ {ns:List Nd},(ns.map (·.ino)).Nodup→∀ {n m:Nd},n∈ns→m∈ns→n.ino=m.ino→n=m
 | [],_,n,_,hn,_,_=>by cases hn
 | a :: r,h,n,m,hn,hm,e=>by
  rw [List.map_cons,List.nodup_cons] at h;rcases List.mem_cons.1 hn with e1 | hn
  · rcases List.mem_cons.1 hm with e2 | hm
    · rw [e1,e2]
    · exact absurd (List.mem_map.2 ⟨m,hm,by rw [← e,e1]⟩) h.1
  · rcases List.mem_cons.1 hm with e2 | hm
    · exact absurd (List.mem_map.2 ⟨n,hn,by rw [e,e2]⟩) h.1
    · exact bS h.2 hn hm e
theorem rJ {ns:List Nd} {i:Int} {n:Nd} (h:ns.find? (fun n=>n.ino == i)=some n):n∈ns∧n.ino=i:=
 ⟨List.mem_of_find?_eq_some h,by have:=List.find?_some h;simpa using this⟩
theorem rM {ns:List Nd} (hu:(ns.map (·.ino)).Nodup) {n:Nd} (hn:n∈ns):ns.find? (fun m=>m.ino == n.ino)=some n:=by
 cases h:ns.find? (fun m=>m.ino == n.ino) with
 | none=>
  have:=List.find?_eq_none.1 h n hn;simp at this
 | some m=>
  have:=rJ h;rw [bS hu this.1 hn this.2]
theorem iU {ns:List Nd} {i:Int} {k:Nat} (h:jh ns i=some k):∃ hk:k < ns.length,(ns[k]).ino=i:=by
 unfold jh at h;obtain ⟨hk,he,_⟩:=List.findIdx?_eq_some_iff_getElem.1 h;exact ⟨hk,by simpa using he⟩
def dN (ns:List Nd) (i:Int) (h:Nd→Nd):List Nd:=ns.map (fun n=>if n.ino=i then h n else n)
theorem mi:∀ {ns:List Nd} {i:Int} {k:Nat} (h:Nd→Nd),(ns.map (·.ino)).Nodup→(hk:k < ns.length)→(ns[k]).ino=i→ns.modify k h=dN ns i h
 | [],_,_,_,_,hk,_=>by simp at hk
 | a :: r,i,0,h,hu,_,e=>by
  have e:a.ino=i:=e;rw [List.map_cons,List.nodup_cons] at hu;unfold dN;rw [List.map_cons,if_pos e,List.modify_zero_cons];congr 1;have h2:r.map (fun n=>if n.ino=i then h n else n)=r.map id:=by
   apply List.map_congr_left;intro n hn;have:n.ino≠i:=fun e2=>hu.1 (List.mem_map.2 ⟨n,hn,by rw [e2,e]⟩);rw [if_neg this];rfl
  rw [h2,List.map_id]
 | a :: r,i,k+1,h,hu,hk,e=>by
  rw [List.map_cons,List.nodup_cons] at hu;have hk' :k < r.length:=by simpa using hk
  have e' :(r[k]).ino=i:=e;have hne:a.ino≠i:=fun e2=>hu.1 (List.mem_map.2 ⟨r[k],List.getElem_mem hk',by rw [e',e2]⟩);have ih:=mi h hu.2 hk' e';unfold dN at ih ⊢;rw [List.map_cons,if_neg hne,List.modify_succ_cons,ih]
theorem iB {ns:List Nd} {i:Int} {h:Nd→Nd} (hh:∀ n,(h n).ino=n.ino):(dN ns i h).map (·.ino)=ns.map (·.ino):=by
 unfold dN;rw [List.map_map];apply List.map_congr_left;intro n _;show (if n.ino=i then h n else n).ino=n.ino;split
 · exact hh n
 · rfl
theorem dn {ns:List Nd} {i:Int} {h:Nd→Nd} {m:Nd} :m∈dN ns i h↔∃ n∈ns,m=if n.ino=i then h n else n:=by
 unfold dN;rw [List.mem_map];constructor
 · rintro ⟨n,hn,e⟩;exact ⟨n,hn,e.symm⟩
 · rintro ⟨n,hn,e⟩;exact ⟨n,hn,e.symm⟩
theorem eZ (nm:ByteArray) (new:Int) (x:En):∀ (b:Bool) (l:List En),x∈gz nm new b l↔(x∈l∧(x.nm.toList == nm.toList)=false)∨(b=false∧x=⟨nm,new⟩)
 | true, []=>by unfold gz;simp
 | false, []=>by unfold gz;simp
 | b,e :: r=>by
  have ih:=eZ nm new x (b || geB e.nm nm) r;have h1:x∈(if !b && geB e.nm nm then [(⟨nm,new⟩:En)] else [])↔(b=false∧geB e.nm nm=true)∧x=⟨nm,new⟩:=by
    cases b <;> cases geB e.nm nm <;> simp
  have h2:x∈(if e.nm.toList == nm.toList then [] else [e])↔(e.nm.toList == nm.toList)=false∧x=e:=by
    cases e.nm.toList == nm.toList <;> simp
  unfold gz;rw [List.mem_append,List.mem_append,ih,List.mem_cons,h1,h2];constructor
  · rintro (⟨⟨hb,_⟩,e1⟩ | ⟨hn,e1⟩ | ⟨hr,hn⟩ | ⟨hb,e1⟩)
    · exact .inr ⟨hb,e1⟩
    · exact .inl ⟨.inl e1,by rw [e1];exact hn⟩
    · exact .inl ⟨.inr hr,hn⟩
    · exact .inr ⟨(by cases b with | false=>rfl | true=>cases hb),e1⟩
  · rintro (⟨e1 | hr,hn⟩ | ⟨hb,e1⟩)
    · exact .inr (.inl ⟨by rw [← e1];exact hn,e1⟩)
    · exact .inr (.inr (.inl ⟨hr,hn⟩))
    · cases hg:geB e.nm nm with
      | true=>exact .inl ⟨⟨hb,rfl⟩,e1⟩
      | false=>exact .inr (.inr (.inr ⟨by rw [hb];rfl,e1⟩))
theorem uV {l:List En} {x:En} (h:x∈l):x.nm.toList∈dY l:=List.mem_map.2 ⟨x,h,rfl⟩
theorem mq (nm:ByteArray) (new:Int):∀ (b:Bool) (l:List En),(dY l).Nodup→(dY (gz nm new b l)).Nodup
 | true, [],_=>by unfold gz dY;simp
 | false, [],_=>by unfold gz dY;simp
 | b,e :: r,h=>by
  have h' :e.nm.toList ∉ dY r∧(dY r).Nodup:=by
   unfold dY at h ⊢;rw [List.map_cons,List.nodup_cons] at h;exact h
  have ih:=mq nm new (b || geB e.nm nm) r h'.2;have hB:(dY ((if e.nm.toList == nm.toList then [] else [e]) ++ gz nm new (b || geB e.nm nm) r)).Nodup:=by
   cases hq:e.nm.toList == nm.toList with
   | true=>rw [if_pos rfl];exact ih
   | false=>
     rw [if_neg (by decide)];unfold dY at ih ⊢;rw [List.cons_append,List.nil_append,List.map_cons,List.nodup_cons];refine ⟨fun hm=>?_,ih⟩;obtain ⟨x,hx,ex⟩:=List.mem_map.1 hm;rcases (eZ nm new x _ r).1 hx with ⟨hr,_⟩ | ⟨_,e1⟩
     · exact h'.1 (by rw [← ex];exact uV hr)
     · rw [e1] at ex;have ex:nm.toList=e.nm.toList:=ex;rw [ex] at hq;simp at hq
  unfold gz;cases hc:(!b && geB e.nm nm) with
  | false=>rw [if_neg (by decide)];exact hB
  | true=>
   rw [if_pos rfl];have hb:b=false:=by
     cases b with
     | false=>rfl
     | true=>cases hc
   have hg:geB e.nm nm=true:=(by rw [hb] at hc;exact hc);unfold dY at hB ⊢;rw [List.cons_append,List.nil_append,List.map_cons,List.nodup_cons];refine ⟨fun hm=>?_,hB⟩;obtain ⟨x,hx,ex⟩:=List.mem_map.1 hm;rcases List.mem_append.1 hx with hx | hx
   · cases hq:e.nm.toList == nm.toList with
     | true=>rw [hq,if_pos rfl] at hx;cases hx
     | false=>
       rw [hq,if_neg (by decide)] at hx;rw [List.mem_singleton.1 hx] at ex;rw [ex] at hq;simp at hq
   · rw [hg,Bool.or_true] at hx;rcases (eZ nm new x _ r).1 hx with ⟨_,hn⟩ | ⟨hb2,_⟩
     · have ex:x.nm.toList=nm.toList:=ex;rw [ex] at hn;simp at hn
     · cases hb2
theorem jH {ns ns' :List Nd} (h:∀ n∈ns,n.kind=2→n.ino≠1→∃ m∈ns',m.ino=n.ino∧m.kind=2∧m.par=n.par) {k:Nat} {i:Int} (hd:fG ns k i):fG ns' k i:=by
 induction hd with
 | root=>exact .root
 | up hn hk h1 _ ih=>
  obtain ⟨m,hm,e1,e2,e3⟩:=h _ hn hk h1;rw [← e1];exact .up hm e2 (by rw [e1];exact h1) (by rw [e3];exact ih)
theorem uW {ns:List Nd} (hu:(ns.map (·.ino)).Nodup) {a:Nat} {i:Int} (ha:fG ns a i):∀ {b:Nat},fG ns b i→a=b:=by
 induction ha with
 | root=>
  intro b hb;generalize hi:(1:Int)=i at hb;cases hb with
  | root=>rfl
  | up _ _ h1 _=>exact absurd hi.symm h1
 | @up n k hn hk h1 _ ih=>
  intro b hb;generalize hi:n.ino=i at hb;cases hb with
  | root=>exact absurd hi h1
  | @up m l hm _ _ hd=>
   have:=bS hu hn hm hi;subst this;rw [ih hd]
theorem jI:∀ {L M:List Int},L.Nodup→(∀ x∈L,x∈M)→L.length≤M.length
 | [],_,_,_=>Nat.zero_le _
 | a :: L,M,h,hs=>by
  rw [List.nodup_cons] at h;have ha:=hs a (List.mem_cons_self ..);have h2:∀ x∈L,x∈M.erase a:=fun x hx=>(List.mem_erase_of_ne (fun e=>h.1 (by rw [← e];exact hx))).2 (hs x (List.mem_cons_of_mem _ hx));have h3:=jI h.2 h2;rw [List.length_erase_of_mem ha] at h3;have:0 < M.length:=List.length_pos_of_mem ha;rw [List.length_cons];omega
theorem uX {ns:List Nd} (hu:(ns.map (·.ino)).Nodup) (hr:(1:Int)∈ns.map (·.ino)) {k:Nat} {i:Int} (hd:fG ns k i):∃ L:List Int,L.length=k+1∧L.Nodup∧(∀ x∈L,x∈ns.map (·.ino))∧∀ x∈L,∃ j,j≤k∧fG ns j x:=by
 induction hd with
 | root=>exact ⟨[1],rfl,by simp,fun x hx=>by rw [List.mem_singleton.1 hx];exact hr,fun x hx=>⟨0,Nat.le_refl _,by rw [List.mem_singleton.1 hx];exact .root⟩⟩
 | @up n k hn hk h1 hd ih=>
  obtain ⟨L,hl,hnd,hsub,Mf⟩:=ih;refine ⟨n.ino :: L,by rw [List.length_cons,hl],List.nodup_cons.2 ⟨fun hm=>?_,hnd⟩,fun x hx=>?_,fun x hx=>?_⟩
  · obtain ⟨j,hj,hd2⟩:=Mf _ hm;have:=uW hu (.up hn hk h1 hd) hd2;omega
  · rcases List.mem_cons.1 hx with rfl | hx
    · exact List.mem_map.2 ⟨n,hn,rfl⟩
    · exact hsub x hx
  · rcases List.mem_cons.1 hx with rfl | hx
    · exact ⟨k+1,Nat.le_refl _, .up hn hk h1 hd⟩
    · obtain ⟨j,hj,h2⟩:=Mf x hx;exact ⟨j,by omega,h2⟩
theorem rO {ns:List Nd} (hu:(ns.map (·.ino)).Nodup) (hr:(1:Int)∈ns.map (·.ino)) {k:Nat} {i:Int} (hd:fG ns k i):k < ns.length:=by
 obtain ⟨L,hl,hnd,hsub,_⟩:=uX hu hr hd;have:=jI hnd hsub;rw [List.length_map] at this;omega
def opE (d:Dv) (i:Int) (nm:ByteArray) (new:Int):Dv:= { d with ns:=dN d.ns i (oP nm new) }
theorem DOk.Fu {Z:Int→Prop} {d:Dv} (h:DOk Z d):(1:Int)∈d.ns.map (·.ino):=by
 obtain ⟨n,r,e,e1,_⟩:=h.root;rw [e,List.map_cons,e1];exact List.mem_cons_self ..
theorem DOk.enter {Z:Int→Prop} {d:Dv} (h:DOk Z d) {p:Nd} (hp:p∈d.ns) (hk:p.kind=2) {nm:ByteArray} (hnm:dS nm=true) {new:Int}
   (hlen:(gz nm new (new == 0) p.es).length≤12) (hnew:new≠0→2≤new∧new < d.nx∧∀ n∈d.ns,n.kind=2→n.ino=new→Z new∧n.par=p.ino):
   DOk (fun j=>(Z j∨∃ e∈p.es,e.nm.toList=nm.toList∧e.ino=j)∧j≠new) (opE d p.ino nm new):=by
 have hg:∀ n,(oP nm new n).ino=n.ino:=fun _=>rfl;have hm:∀ {m:Nd},m∈dN d.ns p.ino (oP nm new)→∃ n∈d.ns,m.ino=n.ino∧m.kind=n.kind∧m.par=n.par∧m.tg=n.tg∧((n=p∧m.es=gz nm new (new == 0) p.es)∨(n.ino≠p.ino∧m.es=n.es)):=fun {m} hmm=>by
   obtain ⟨n,hn,e⟩:=dn.1 hmm;refine ⟨n,hn,?_⟩;by_cases hi:n.ino=p.ino
   · have:=bS h.uniq hn hp hi;subst this;rw [if_pos rfl] at e;subst e;exact ⟨rfl,rfl,rfl,rfl, .inl ⟨rfl,rfl⟩⟩
   · rw [if_neg hi] at e;subst e;exact ⟨rfl,rfl,rfl,rfl, .inr ⟨hi,rfl⟩⟩
 have hi:∀ {n:Nd},n∈d.ns→∃ m∈dN d.ns p.ino (oP nm new),m.ino=n.ino∧m.kind=n.kind∧m.par=n.par∧((n=p∧m.es=gz nm new (new == 0) p.es)∨(n.ino≠p.ino∧m.es=n.es)):=fun {n} hn=>by
   refine ⟨_,dn.2 ⟨n,hn,rfl⟩,?_⟩;by_cases hi:n.ino=p.ino
   · have:=bS h.uniq hn hp hi;subst this;rw [if_pos rfl];exact ⟨rfl,rfl,rfl, .inl ⟨rfl,rfl⟩⟩
   · rw [if_neg hi];exact ⟨rfl,rfl,rfl, .inr ⟨hi,rfl⟩⟩
 have hin:∀ {e:En},e∈gz nm new (new == 0) p.es→(e∈p.es∧e.nm.toList≠nm.toList)∨(new≠0∧e=⟨nm,new⟩):=fun {e} he=>by
   rcases (eZ nm new e _ _).1 he with ⟨h1,h2⟩ | ⟨h1,h2⟩
   · exact .inl ⟨h1,fun e3=>by rw [e3] at h2;simp at h2⟩
   · exact .inr ⟨by simpa using h1,h2⟩
 refine ⟨by show (dN _ _ _).length≤16;unfold dN;rw [List.length_map];exact h.few,h.nx2,h.nxm,?_,by show ((dN _ _ _).map _).Nodup;rw [iB hg];exact h.uniq,?_,?_,?_,?_,?_,?_⟩
 · obtain ⟨n,r,e,e1,e2⟩:=h.root;refine ⟨if n.ino=p.ino then oP nm new n else n,dN r p.ino (oP nm new),?_,?_,?_⟩
   · show dN d.ns _ _=_;unfold dN;rw [e];rfl
   · split <;> exact e1
   · split <;> exact e2
 · intro m hmm;obtain ⟨n,hn,e1,_⟩:=hm hmm;rw [e1];exact h.rng n hn
 · intro m hmm;obtain ⟨n,hn,_,_,_,e4,_⟩:=hm hmm;rw [e4];exact h.tgs n hn
 · intro m hmm;obtain ⟨n,hn,_,_,_,_,⟨rfl,e5⟩ | ⟨_,e5⟩⟩:=hm hmm
   · rw [e5];refine ⟨hlen,mq nm new _ _ (h.cu n hn).2.1,fun e he=>?_⟩;rcases hin he with ⟨h1,_⟩ | ⟨h1,rfl⟩
     · exact (h.cu n hn).2.2 e h1
     · exact ⟨(hnew h1).1,(hnew h1).2.1,hnm⟩
   · rw [e5];exact h.cu n hn
 · intro m hmm hk2 q hq e he ee;obtain ⟨n,hn,e1,e2,e3,_,_⟩:=hm hmm;obtain ⟨r,hr,f1,_,_,_,hre⟩:=hm hq;rw [e1] at ee;rw [e2] at hk2;rcases hre with ⟨rfl,f5⟩ | ⟨fne,f5⟩
   · rw [f5] at he;rcases hin he with ⟨h1,h2⟩ | ⟨h1,rfl⟩
     · obtain ⟨l1,l2,l3⟩:=h.link n hn hk2 r hr e h1 ee;have hnn:n.ino≠new∨new=0:=by
         by_cases h0:new=0
         · exact .inr h0
         · exact .inl (fun e9=>l1 (by rw [e9];exact ((hnew h0).2.2 n hn hk2 e9).1))
       refine ⟨?_,by rw [f1,e3];exact l2,?_⟩
       · rw [e1];rintro ⟨hz | ⟨x,hx,hxn,hxi⟩,_⟩
         · exact l1 hz
         · exact h2 (by rw [← hxn];exact (l3 x hx hxi).symm)
       · intro x hx hxi;rw [f5] at hx;rw [e1] at hxi;rcases hin hx with ⟨g1,_⟩ | ⟨g1,rfl⟩
         · exact l3 x g1 hxi
         · have hxi:new=n.ino:=hxi;rcases hnn with hnn | hnn
           · exact absurd hxi.symm hnn
           · exact absurd hnn g1
     · have ee:new=n.ino:=ee;obtain ⟨hz,Jn⟩:=(hnew h1).2.2 n hn hk2 ee.symm;refine ⟨by rw [e1];exact fun hh=>hh.2 ee.symm,by rw [f1,e3];exact Jn.symm,?_⟩;intro x hx hxi;rw [f5] at hx;rw [e1] at hxi;rcases hin hx with ⟨g1,_⟩ | ⟨g1,rfl⟩
       · exact absurd (by rw [← ee];exact hz) (h.link n hn hk2 r hr x g1 hxi).1
       · rfl
   · rw [f5] at he;obtain ⟨l1,l2,l3⟩:=h.link n hn hk2 r hr e he ee;refine ⟨?_,by rw [f1,e3];exact l2,?_⟩
     · rw [e1];rintro ⟨hz | ⟨x,hx,hxn,hxi⟩,_⟩
       · exact l1 hz
       · exact fne (l2.trans (h.link n hn hk2 p hp x hx hxi).2.1.symm)
     · intro x hx hxi;rw [f5] at hx;rw [e1] at hxi;exact l3 x hx hxi
 · intro m hmm hk2 h1;obtain ⟨n,hn,e1,e2,e3,_,_⟩:=hm hmm;rw [e2] at hk2;rw [e1] at h1;obtain ⟨q,hq,q1,q2,q3⟩:=h.par n hn hk2 h1;obtain ⟨q',hq',r1,r2,_,r5⟩:=hi hq;refine ⟨q',hq',by rw [r1,e3];exact q1,by rw [r2];exact q2,fun hz=>?_⟩;rw [e1] at hz ⊢;by_cases hnn:n.ino=new
   · have h0:new≠0:=fun e0=>by have:=(h.rng n hn).1;omega
     obtain ⟨z1,z2⟩:=(hnew h0).2.2 n hn hk2 hnn;have hqp:q.ino=p.ino:=(by rw [q1];exact z2);have:=bS h.uniq hq hp hqp;subst this;rcases r5 with ⟨_,r5⟩ | ⟨r5,_⟩
     · refine ⟨⟨nm,new⟩,?_,hnn.symm⟩;rw [r5];exact (eZ nm new _ _ _).2 (.inr ⟨by simpa using h0,rfl⟩)
     · exact absurd rfl r5
   · obtain ⟨e,he,ee⟩:=q3 (fun hz2=>hz ⟨.inl hz2,hnn⟩);refine ⟨e,?_,ee⟩;rcases r5 with ⟨rfl,r5⟩ | ⟨_,r5⟩
     · rw [r5];refine (eZ nm new _ _ _).2 (.inl ⟨he,?_⟩);cases hq2:e.nm.toList == nm.toList with
       | false=>rfl
       | true=>exact absurd ⟨.inr ⟨e,he,by simpa using hq2,ee⟩,hnn⟩ hz
     · rw [r5];exact he
 · intro m hmm hk2;obtain ⟨n,hn,e1,e2,e3,_,_⟩:=hm hmm;rw [e2] at hk2;obtain ⟨k,hd⟩:=h.reach n hn hk2;rw [e1];refine ⟨k,jH (fun a ha hak _=>?_) hd⟩;obtain ⟨b,hb,b1,b2,b3,_⟩:=hi ha;exact ⟨b,hb,b1,by rw [b2];exact hak,b3⟩
def opD (d:Dv) (t:Int):Dv:=if 0 < jc d.ns t then d else { d with ns:=d.ns.filter (fun n=> !(n.ino == t)) }
theorem o8 {l:List En} {t:Int} :lK l t=0↔∀ e∈l,e.ino≠t:=by
 unfold lK;rw [List.countP_eq_zero];constructor
 · intro h e he e2;exact h e he (by simpa using e2)
 · intro h e he e2;exact h e he (by simpa using e2)
theorem o9 {l:List Nd} {t:Int} :jc l t=0↔∀ n∈l,∀ e∈n.es,e.ino≠t:=by
 unfold jc;induction l with
 | nil=>simp
 | cons a r ih=>
  rw [List.map_cons,List.sum_cons];constructor
  · intro h n hn;rcases List.mem_cons.1 hn with rfl | hn
    · exact o8.1 (by omega)
    · exact ih.1 (by omega) n hn
  · intro h;have h1:=o8.2 (h a (List.mem_cons_self ..));have h2:=ih.2 (fun n hn=>h n (List.mem_cons_of_mem _ hn));omega
theorem DOk.weaken {Z Z' :Int→Prop} {d:Dv} (h:DOk Z d) (h1:∀ n∈d.ns,n.kind=2→(Z n.ino↔Z' n.ino)):DOk Z' d:=
 ⟨h.few,h.nx2,h.nxm,h.root,h.uniq,h.rng,h.tgs,h.cu,fun n hn hk p hp e he ee=>by
  obtain ⟨l1,l2⟩:=h.link n hn hk p hp e he ee;exact ⟨fun hz=>l1 ((h1 n hn hk).2 hz),l2⟩,fun n hn hk h2=>by
  obtain ⟨p,hp,p1,p2,p3⟩:=h.par n hn hk h2;exact ⟨p,hp,p1,p2,fun hz=>p3 (fun hz2=>hz ((h1 n hn hk).1 hz2))⟩,h.reach⟩
theorem DOk.drop {Z:Int→Prop} {d:Dv} (h:DOk Z d) {t:Int} (ht:t≠1) (hz:∀ n∈d.ns,n.kind=2→Z n.ino→n.ino=t) (he:∀ n∈d.ns,n.kind=2→n.ino=t→n.es= []):DOk NoZ (opD d t):=by
 unfold opD;split
 · rename_i hc;refine h.weaken fun n hn hk=>⟨fun hzn=>?_,fun hn=>hn.elim⟩;have e1:=hz n hn hk hzn;have:jc d.ns t=0:=o9.2 fun p hp e hee e2=>(h.link n hn hk p hp e hee (by rw [e2,e1])).1 hzn;omega
 · rename_i hc;have hc:jc d.ns t=0:=(by omega);have hno:=o9.1 hc;have hm:∀ {n:Nd},n∈d.ns.filter (fun n=> !(n.ino == t))↔n∈d.ns∧n.ino≠t:=fun {n} =>by
     rw [List.mem_filter];simp
   have Jn:∀ n∈d.ns,n.kind=2→n.ino≠1→n.ino≠t→∃ p∈d.ns,p.ino≠t∧p.ino=n.par∧p.kind=2∧∃ e∈p.es,e.ino=n.ino:=fun n hn hk h1 hnt=>by
     obtain ⟨p,hp,p1,p2,p3⟩:=h.par n hn hk h1;obtain ⟨e,hee,e1⟩:=p3 (fun hzn=>hnt (hz n hn hk hzn));refine ⟨p,hp,fun ep=>?_,p1,p2,e,hee,e1⟩;rw [he p hp p2 ep] at hee;cases hee
   refine ⟨?_,h.nx2,h.nxm,?_,?_,?_,?_,?_,?_,?_,?_⟩
   · exact Nat.le_trans (List.length_filter_le ..) h.few
   · obtain ⟨n,r,e,e1,e2⟩:=h.root;refine ⟨n,r.filter (fun n=> !(n.ino == t)),?_,e1,e2⟩;show d.ns.filter _=_;rw [e,List.filter_cons_of_pos];rw [e1];simpa using fun e=>ht e.symm
   · exact List.Nodup.sublist (List.Sublist.map _ List.filter_sublist) h.uniq
   · intro n hn;exact h.rng n (hm.1 hn).1
   · intro n hn;exact h.tgs n (hm.1 hn).1
   · intro n hn;exact h.cu n (hm.1 hn).1
   · intro n hn hk p hp e hee e1;obtain ⟨_,l2⟩:=h.link n (hm.1 hn).1 hk p (hm.1 hp).1 e hee e1;exact ⟨fun hf=>hf,l2⟩
   · intro n hn hk h1;obtain ⟨p,hp,pt,p1,p2,p3⟩:=Jn n (hm.1 hn).1 hk h1 (hm.1 hn).2;exact ⟨p,hm.2 ⟨hp,pt⟩,p1,p2,fun _=>p3⟩
   · intro n hn hk;obtain ⟨k,hd⟩:=h.reach n (hm.1 hn).1 hk;refine ⟨k,?_⟩;have key:∀ {k:Nat} {i:Int},fG d.ns k i→i≠t→fG (d.ns.filter (fun n=> !(n.ino == t))) k i:=fun {k i} hd=>by
      induction hd with
      | root=>exact fun _=> .root
      | @up a k ha hka h1 _ ih=>
       intro hat;obtain ⟨p,hp,pt,p1,_⟩:=Jn a ha hka h1 hat;exact .up (hm.2 ⟨ha,hat⟩) hka h1 (ih (by rw [← p1];exact pt))
     exact key hd (hm.1 hn).2
theorem DOk.attr {Z:Int→Prop} {d:Dv} (h:DOk Z d) (g:Nd→Nd) (i:Int) (hg:∀ n,(g n).ino=n.ino∧(g n).kind=n.kind∧(g n).par=n.par∧(g n).es=n.es∧(g n).tg=n.tg):DOk Z { d with ns:=dN d.ns i g } :=by
 have hm:∀ {m:Nd},m∈dN d.ns i g→∃ n∈d.ns,m.ino=n.ino∧m.kind=n.kind∧m.par=n.par∧m.es=n.es∧m.tg=n.tg:=fun {m} hmm=>by
   obtain ⟨n,hn,e⟩:=dn.1 hmm;refine ⟨n,hn,?_⟩;rw [e];split
   · exact hg n
   · exact ⟨rfl,rfl,rfl,rfl,rfl⟩
 have hi:∀ {n:Nd},n∈d.ns→∃ m∈dN d.ns i g,m.ino=n.ino∧m.kind=n.kind∧m.par=n.par∧m.es=n.es:=fun {n} hn=>by
   refine ⟨_,dn.2 ⟨n,hn,rfl⟩,?_⟩;split
   · exact ⟨(hg n).1,(hg n).2.1,(hg n).2.2.1,(hg n).2.2.2.1⟩
   · exact ⟨rfl,rfl,rfl,rfl⟩
 refine ⟨by show (dN _ _ _).length≤16;unfold dN;rw [List.length_map];exact h.few,h.nx2,h.nxm,?_,by show ((dN _ _ _).map _).Nodup;rw [iB (fun n=>(hg n).1)];exact h.uniq,?_,?_,?_,?_,?_,?_⟩
 · obtain ⟨n,r,e,e1,e2⟩:=h.root;refine ⟨if n.ino=i then g n else n,dN r i g,?_,?_,?_⟩
   · show dN d.ns _ _=_;unfold dN;rw [e];rfl
   · split
     · rw [(hg n).1];exact e1
     · exact e1
   · split
     · rw [(hg n).2.1];exact e2
     · exact e2
 · intro m hmm;obtain ⟨n,hn,e1,_⟩:=hm hmm;rw [e1];exact h.rng n hn
 · intro m hmm;obtain ⟨n,hn,_,_,_,_,e5⟩:=hm hmm;rw [e5];exact h.tgs n hn
 · intro m hmm;obtain ⟨n,hn,_,_,_,e4,_⟩:=hm hmm;rw [e4];exact h.cu n hn
 · intro m hmm hk p hp e he ee;obtain ⟨n,hn,e1,e2,e3,_,_⟩:=hm hmm;obtain ⟨q,hq,f1,_,_,f4,_⟩:=hm hp;rw [f4] at he ⊢;rw [e1] at ee ⊢;rw [e3,f1];exact h.link n hn (by rw [← e2];exact hk) q hq e he ee
 · intro m hmm hk h1;obtain ⟨n,hn,e1,e2,e3,_,_⟩:=hm hmm;rw [e1] at h1 ⊢;obtain ⟨q,hq,q1,q2,q3⟩:=h.par n hn (by rw [← e2];exact hk) h1;obtain ⟨q',hq',r1,r2,_,r4⟩:=hi hq;exact ⟨q',hq',by rw [r1,e3];exact q1,by rw [r2];exact q2,fun hz=>by rw [r4];exact q3 hz⟩
 · intro m hmm hk;obtain ⟨n,hn,e1,e2,_⟩:=hm hmm;obtain ⟨k,hd⟩:=h.reach n hn (by rw [← e2];exact hk);rw [e1];refine ⟨k,jH (fun a ha hak _=>?_) hd⟩;obtain ⟨b,hb,b1,b2,b3,_⟩:=hi ha;exact ⟨b,hb,b1,by rw [b2];exact hak,b3⟩
theorem DOk.more {d:Dv} (h:DOk NoZ d) (x:Nd) (hx:x.ino=d.nx) (hes:x.es= []) (hl:d.ns.length < 16) (hn:d.nx < 1073741824) (htg:x.tg.size≤128)
   (hp:x.kind=2→∃ p∈d.ns,p.ino=x.par∧p.kind=2):DOk (fun j=>j=x.ino) { nx:=d.nx+1,ns:=d.ns ++ [x] } :=by
 have hm:∀ {n:Nd},n∈d.ns ++ [x]↔n∈d.ns∨n=x:=fun {n} =>by rw [List.mem_append,List.mem_singleton]
 have hlt:∀ n∈d.ns,n.ino≠x.ino:=fun n hn e=>by have:=(h.rng n hn).2;omega
 have hmono:∀ {k:Nat} {i:Int},fG d.ns k i→fG (d.ns ++ [x]) k i:=fun {k i} hd=>jH (fun n hn hk _=>⟨n,hm.2 (.inl hn),rfl,hk,rfl⟩) hd;have hnx:=h.nx2;refine ⟨?_,by show (2:Int)≤d.nx+1;omega,by show d.nx+1≤1073741824;omega,?_,?_,?_,?_,?_,?_,?_,?_⟩
 · show (d.ns ++ [x]).length≤16;rw [List.length_append,List.length_singleton];omega
 · obtain ⟨n,r,e,e1,e2⟩:=h.root;exact ⟨n,r ++ [x],by show d.ns ++ [x]=_;rw [e];rfl,e1,e2⟩
 · show ((d.ns ++ [x]).map _).Nodup;rw [List.map_append,List.nodup_append];refine ⟨h.uniq,by simp,fun a ha b hb=>?_⟩;obtain ⟨n,hn,e1⟩:=List.mem_map.1 ha;have hb:b=x.ino:=(by simpa using hb);rw [hb, ← e1];exact hlt n hn
 · intro n hn;rcases hm.1 hn with hn | rfl
   · have:=h.rng n hn;exact ⟨this.1,by show n.ino < d.nx+1;omega⟩
   · exact ⟨by omega,by show _ < d.nx+1;omega⟩
 · intro n hn;rcases hm.1 hn with hn | rfl
   · exact h.tgs n hn
   · exact htg
 · intro n hn;rcases hm.1 hn with hn | rfl
   · obtain ⟨e1,e2,e3⟩:=h.cu n hn;exact ⟨e1,e2,fun e he=>by obtain ⟨a,b,c⟩:=e3 e he;exact ⟨a,by show e.ino < d.nx+1;omega,c⟩⟩
   · rw [hes];exact ⟨Nat.zero_le _,by unfold dY;simp,fun e he=>by cases he⟩
 · intro n hn hk p hp e he ee;rcases hm.1 hp with hp | rfl
   · have h9:=((h.cu p hp).2.2 e he).2.1;rcases hm.1 hn with hn | rfl
     · obtain ⟨_,l2⟩:=h.link n hn hk p hp e he ee;exact ⟨hlt n hn,l2⟩
     · omega
   · rw [hes] at he;cases he
 · intro n hn hk h1;rcases hm.1 hn with hn | rfl
   · obtain ⟨p,hp,p1,p2,p3⟩:=h.par n hn hk h1;exact ⟨p,hm.2 (.inl hp),p1,p2,fun _=>p3 (fun h=>h)⟩
   · obtain ⟨p,hp',p1,p2⟩:=hp hk;exact ⟨p,hm.2 (.inl hp'),p1,p2,fun hz=>absurd rfl hz⟩
 · intro n hn hk;rcases hm.1 hn with hn | rfl
   · obtain ⟨k,hd⟩:=h.reach n hn hk;exact ⟨k,hmono hd⟩
   · obtain ⟨p,hp',p1,p2⟩:=hp hk;obtain ⟨k,hd⟩:=h.reach p hp' p2;refine ⟨k+1, .up (hm.2 (.inr rfl)) hk (by omega) (hmono (by rw [← p1];exact hd))⟩
def upI (ns:List Nd) (i:Int):Int:=match ns.find? (fun n=>n.ino == i) with | some n=>n.par | none=>0
def upN (ns:List Nd):Nat→Int→Int
 | 0,i=>i
 | j+1,i=>upN ns j (upI ns i)
def nH (q:Int) (n:Nd):Nd:= { n with par:=q }
def opP (d:Dv) (t q:Int):Dv:= { d with ns:=dN d.ns t (nH q) }
theorem DOk.Fv {Z:Int→Prop} {d:Dv} (h:DOk Z d) {a q:Nd} (hz:Z a.ino) (hq:q∈d.ns) (hqk:q.kind=2) (hav:∀ j,j≤16→upN d.ns j q.ino≠a.ino):DOk Z (opP d a.ino q.ino):=by
 have hg:∀ n,(nH q.ino n).ino=n.ino:=fun _=>rfl;have hm:∀ {m:Nd},m∈dN d.ns a.ino (nH q.ino)→∃ n∈d.ns,m.ino=n.ino∧m.kind=n.kind∧m.es=n.es∧m.tg=n.tg∧((n.ino=a.ino∧m.par=q.ino)∨(n.ino≠a.ino∧m.par=n.par)):=fun {m} hmm=>by
   obtain ⟨n,hn,e⟩:=dn.1 hmm;refine ⟨n,hn,?_⟩;by_cases hi:n.ino=a.ino
   · rw [if_pos hi] at e;subst e;exact ⟨rfl,rfl,rfl,rfl, .inl ⟨hi,rfl⟩⟩
   · rw [if_neg hi] at e;subst e;exact ⟨rfl,rfl,rfl,rfl, .inr ⟨hi,rfl⟩⟩
 have hi:∀ {n:Nd},n∈d.ns→∃ m∈dN d.ns a.ino (nH q.ino),m.ino=n.ino∧m.kind=n.kind∧m.es=n.es∧((n.ino=a.ino∧m.par=q.ino)∨(n.ino≠a.ino∧m.par=n.par)):=fun {n} hn=>by
   refine ⟨_,dn.2 ⟨n,hn,rfl⟩,?_⟩;by_cases hi:n.ino=a.ino
   · rw [if_pos hi];exact ⟨rfl,rfl,rfl, .inl ⟨hi,rfl⟩⟩
   · rw [if_neg hi];exact ⟨rfl,rfl,rfl, .inr ⟨hi,rfl⟩⟩
 have Jo:∀ {k:Nat} {i:Int},fG d.ns k i→(∀ j,j≤k→upN d.ns j i≠a.ino)→fG (dN d.ns a.ino (nH q.ino)) k i:=fun {k i} hd=>by
   induction hd with
   | root=>exact fun _=> .root
   | @up n k hn hk h1 _ ih=>
     intro hj;obtain ⟨m,hmm,e1,e2,_,⟨e3,_⟩ | ⟨_,e3⟩⟩:=hi hn
     · exact absurd e3 (hj 0 (Nat.zero_le _))
     · rw [← e1];refine .up hmm (by rw [e2];exact hk) (by rw [e1];exact h1) ?_;rw [e3];refine ih fun j hjk=>?_;have:=hj (j+1) (by omega);unfold upN at this;unfold upI at this;rw [rM h.uniq hn] at this;exact this
 obtain ⟨kq,hdq⟩:=h.reach q hq hqk;have hkq:=rO h.uniq h.Fu hdq;have oO:=h.few;have Ns:=Jo hdq (fun j hj=>hav j (by omega));refine ⟨by show (dN _ _ _).length≤16;unfold dN;rw [List.length_map];exact h.few,h.nx2,h.nxm,?_,by show ((dN _ _ _).map _).Nodup;rw [iB hg];exact h.uniq,?_,?_,?_,?_,?_,?_⟩
 · obtain ⟨n,r,e,e1,e2⟩:=h.root;refine ⟨if n.ino=a.ino then nH q.ino n else n,dN r a.ino (nH q.ino),?_,?_,?_⟩
   · show dN d.ns _ _=_;unfold dN;rw [e];rfl
   · split <;> exact e1
   · split <;> exact e2
 · intro m hmm;obtain ⟨n,hn,e1,_⟩:=hm hmm;rw [e1];exact h.rng n hn
 · intro m hmm;obtain ⟨n,hn,_,_,_,e4,_⟩:=hm hmm;rw [e4];exact h.tgs n hn
 · intro m hmm;obtain ⟨n,hn,_,_,e3,_⟩:=hm hmm;rw [e3];exact h.cu n hn
 · intro m hmm hk p hp e he ee;obtain ⟨n,hn,e1,e2,e3,_,e5⟩:=hm hmm;obtain ⟨r,hr,f1,_,f3,_,_⟩:=hm hp;rw [f3] at he ⊢;rw [e1] at ee ⊢;obtain ⟨l1,l2,l3⟩:=h.link n hn (by rw [← e2];exact hk) r hr e he ee;rcases e5 with ⟨e5,_⟩ | ⟨_,e5⟩
   · exact absurd (by rw [e5];exact hz) l1
   · exact ⟨l1,by rw [f1,e5];exact l2,l3⟩
 · intro m hmm hk h1;obtain ⟨n,hn,e1,e2,_,_,e5⟩:=hm hmm;rw [e1] at h1 ⊢;rcases e5 with ⟨e5,e6⟩ | ⟨_,e6⟩
   · obtain ⟨q',hq',r1,r2,_⟩:=hi hq;exact ⟨q',hq',by rw [r1,e6],by rw [r2];exact hqk,fun hzn=>absurd (by rw [e5];exact hz) hzn⟩
   · obtain ⟨p,hp,q1,q2,q3⟩:=h.par n hn (by rw [← e2];exact hk) h1;obtain ⟨p',hp',r1,r2,r3,_⟩:=hi hp;exact ⟨p',hp',by rw [r1,e6];exact q1,by rw [r2];exact q2,fun hzn=>by rw [r3];exact q3 hzn⟩
 · intro m hmm hk;obtain ⟨n,hn,e1,e2,_⟩:=hm hmm;obtain ⟨k,hd⟩:=h.reach n hn (by rw [← e2];exact hk);rw [e1];have key:∀ {k:Nat} {i:Int},fG d.ns k i→∃ k',fG (dN d.ns a.ino (nH q.ino)) k' i:=fun {k i} hd=>by
     induction hd with
     | root=>exact ⟨0, .root⟩
     | @up b k hb hbk hb1 _ ih=>
       obtain ⟨b',hb',r1,r2,_,r4⟩:=hi hb;rcases r4 with ⟨r4,r5⟩ | ⟨_,r5⟩
       · refine ⟨kq+1,?_⟩;rw [← r1];exact .up hb' (by rw [r2];exact hbk) (by rw [r1];exact hb1) (by rw [r5];exact Ns)
       · obtain ⟨k',hk'⟩:=ih;refine ⟨k' +1,?_⟩;rw [← r1];exact .up hb' (by rw [r2];exact hbk) (by rw [r1];exact hb1) (by rw [r5];exact hk')
   exact key hd
theorem CE {ns:List Nd} {i:Int} {h:Nd→Nd} (hh:∀ n,(h n).ino=n.ino∧(h n).par=n.par) (k:Int):upI (dN ns i h) k=upI ns k:=by
 unfold upI dN;rw [List.find?_map];have:((fun n:Nd=>n.ino == k) ∘ fun n=>if n.ino=i then h n else n)=fun n=>n.ino == k:=by
  funext n;show ((if n.ino=i then h n else n).ino == k)=_;split
  · rw [(hh n).1]
  · rfl
 rw [this];cases ns.find? (fun n=>n.ino == k) with
 | none=>rfl
 | some n=>
  show (if n.ino=i then h n else n).par=n.par;split
  · exact (hh n).2
  · rfl
theorem uY {ns:List Nd} {i:Int} {h:Nd→Nd} (hh:∀ n,(h n).ino=n.ino∧(h n).par=n.par):∀ (j:Nat) (k:Int),upN (dN ns i h) j k=upN ns j k
 | 0,_=>rfl
 | j+1,k=>by
  unfold upN;rw [CE hh,uY hh]
theorem iC (nm:ByteArray) (new:Int):∀ (b:Bool) (l:List En),(gz nm new b l).length=(l.filter (fun x=> !(x.nm.toList == nm.toList))).length+(if b then 0 else 1)
 | true, []=>by unfold gz;simp
 | false, []=>by unfold gz;simp
 | b,e :: r=>by
  have ih:=iC nm new (b || geB e.nm nm) r;unfold gz;rw [List.length_append,List.length_append,ih];cases hb:b <;> cases hg:geB e.nm nm <;> cases hq:(e.nm.toList == nm.toList) <;> simp [hq] <;> omega
theorem Bg {l:List En} {nm:ByteArray} {x:En} (h:o7 l nm=some x):(l.filter (fun x=> !(x.nm.toList == nm.toList))).length+1≤l.length:=by
 have hx:x∈l:=List.mem_of_find?_eq_some h;have hn:=List.find?_some h;have:(l.filter (fun x=> !(x.nm.toList == nm.toList))).length < l.length:=by
  apply List.length_filter_lt_length_iff_exists.2;exact ⟨x,hx,by simpa using hn⟩
 omega
theorem jk {l:List En} {nm:ByteArray} {x:En} (h:o7 l nm=some x):x∈l∧x.nm.toList=nm.toList:=
 ⟨List.mem_of_find?_eq_some h,by have:=List.find?_some h;simpa using this⟩
theorem jl:∀ {l:List En},(dY l).Nodup→∀ {x y:En},x∈l→y∈l→x.nm.toList=y.nm.toList→x=y
 | [],_,x,_,hx,_,_=>by cases hx
 | a :: r,h,x,y,hx,hy,e=>by
  unfold dY at h;rw [List.map_cons,List.nodup_cons] at h;rcases List.mem_cons.1 hx with e1 | hx
  · rcases List.mem_cons.1 hy with e2 | hy
    · rw [e1,e2]
    · exact absurd (List.mem_map.2 ⟨y,hy,by rw [← e,e1]⟩) h.1
  · rcases List.mem_cons.1 hy with e2 | hy
    · exact absurd (List.mem_map.2 ⟨x,hx,by rw [e,e2]⟩) h.1
    · exact jl h.2 hx hy e
theorem DOk.leave {d:Dv} (h:DOk NoZ d) {p:Nd} (hp:p∈d.ns) (hk:p.kind=2) {nm:ByteArray} (hnm:dS nm=true) {x:En} (hx:o7 p.es nm=some x):DOk (fun j=>j=x.ino) (opE d p.ino nm 0):=by
 have h1:=h.enter hp hk hnm (new:=0) (by have:=iC nm 0 true p.es;have:=Bg hx;have:=(h.cu p hp).1;simp at *;omega) (fun h0=>absurd rfl h0);obtain ⟨hxm,hxn⟩:=jk hx;refine h1.weaken fun n hn hnk=>?_;constructor
 · rintro ⟨hf | ⟨e,he,en,ei⟩,_⟩
   · exact hf.elim
   · rw [← ei,jl (h.cu p hp).2.1 he hxm (by rw [en,hxn])]
 · intro e;have:=((h.cu p hp).2.2 x hxm).1;exact ⟨.inr ⟨x,hxm,hxn,e.symm⟩,by omega⟩
theorem jJ {d:Dv} {i:Int} {nm:ByteArray} {new:Int} {m:Nd} (h:m∈(opE d i nm new).ns):∃ n∈d.ns,m.ino=n.ino∧m.kind=n.kind∧m.par=n.par∧(n.ino≠i→m.es=n.es)∧(n.ino=i→m.es=gz nm new (new == 0) n.es):=by
 obtain ⟨n,hn,e⟩:=dn.1 h;refine ⟨n,hn,?_⟩;by_cases hi:n.ino=i
 · rw [if_pos hi] at e;subst e;exact ⟨rfl,rfl,rfl,fun hne=>absurd hi hne,fun _=>rfl⟩
 · rw [if_neg hi] at e;subst e;exact ⟨rfl,rfl,rfl,fun _=>rfl,fun he=>absurd he hi⟩
theorem gB {d:Dv} {i:Int} {nm:ByteArray} {new:Int} {n:Nd} (hn:n∈d.ns):∃ m∈(opE d i nm new).ns,m.ino=n.ino∧m.kind=n.kind∧m.par=n.par∧(n.ino≠i→m.es=n.es)∧(n.ino=i→m.es=gz nm new (new == 0) n.es):=by
 refine ⟨_,dn.2 ⟨n,hn,rfl⟩,?_⟩;by_cases hi:n.ino=i
 · rw [if_pos hi];exact ⟨rfl,rfl,rfl,fun hne=>absurd hi hne,fun _=>rfl⟩
 · rw [if_neg hi];exact ⟨rfl,rfl,rfl,fun _=>rfl,fun he=>absurd he hi⟩
theorem DOk.unlink {d:Dv} (h:DOk NoZ d) {p:Nd} (hp:p∈d.ns) (hk:p.kind=2) {nm:ByteArray} (hnm:dS nm=true) {x:En} (hx:o7 p.es nm=some x) (hes:∀ n∈d.ns,n.ino=x.ino→n.kind=2→n.es= []):DOk NoZ (opD (opE d p.ino nm 0) x.ino):=by
 obtain ⟨hxm,hxn⟩:=jk hx;have hx2:=((h.cu p hp).2.2 x hxm).1;refine (h.leave hp hk hnm hx).drop (by omega) (fun n _ _ e=>e) fun m hm hmk e=>?_;obtain ⟨n,hn,e1,e2,_,e4,e5⟩:=jJ hm;rw [e2] at hmk;have hn0:=hes n hn (by rw [← e1];exact e) hmk;by_cases hi:n.ino=p.ino
 · rw [e5 hi,hn0];unfold gz;rfl
 · rw [e4 hi];exact hn0
theorem DOk.Fw {d:Dv} {Z:Int→Prop} (h:DOk Z d) {p:Nd} (hp:p∈d.ns) (hk:p.kind=2) {nm:ByteArray} (hnm:dS nm=true) (hx:o7 p.es nm=none) {new:Int} (hfull:p.es.length < 12)
   (h2:2≤new) (hnx:new < d.nx) (hnew:∀ n∈d.ns,n.kind=2→n.ino=new→Z new∧n.par=p.ino) (hZ:∀ n∈d.ns,n.kind=2→Z n.ino→n.ino=new):DOk NoZ (opE d p.ino nm new):=by
 have h0:(new == 0)=false:=by simp;omega
 have h1:=h.enter hp hk hnm (new:=new) (by have:=iC nm new (new == 0) p.es;rw [h0] at this ⊢;have:=List.length_filter_le (fun x:En=> !(x.nm.toList == nm.toList)) p.es;simp at *;omega) (fun _=>⟨h2,hnx,hnew⟩);refine h1.weaken fun m hm hmk=>?_;constructor
 · rintro ⟨hf | ⟨e,he,en,ei⟩,hne⟩
   · obtain ⟨n,hn,e1,e2,_⟩:=jJ hm;exact hne (by rw [e1];exact hZ n hn (by rw [← e2];exact hmk) (by rw [← e1];exact hf))
   · have:=List.find?_eq_none.1 hx e he;rw [en] at this;simp at this
 · intro hf;exact hf.elim
theorem uZ {ns:List Nd} {i k:Int} {h g:Nd→Nd} (hh:∀ n,(h n).ino=n.ino) (hg:∀ n,(g n).ino=n.ino) (hc:∀ n,h (g n)=g (h n)):dN (dN ns i h) k g=dN (dN ns k g) i h:=by
 unfold dN;rw [List.map_map,List.map_map];apply List.map_congr_left;intro n _;show (if (if n.ino=i then h n else n).ino=k then g (if n.ino=i then h n else n) else (if n.ino=i then h n else n))=(if (if n.ino=k then g n else n).ino=i then h (if n.ino=k then g n else n) else (if n.ino=k then g n else n));have e1:(if n.ino=i then h n else n).ino=n.ino:=by split;exact hh n;rfl
 have e2:(if n.ino=k then g n else n).ino=n.ino:=by split;exact hg n;rfl
 rw [e1,e2];split
 · split
   · rw [hc]
   · rfl
 · rfl
theorem ve (d:Dv) (t q i:Int) (nm:ByteArray) (new:Int):opP (opE d i nm new) t q=opE (opP d t q) i nm new:=by
 unfold opP opE;congr 1;exact uZ (fun _=>rfl) (fun _=>rfl) (fun _=>rfl)
theorem yV {ns:List Nd} {i t:Int} {g:Nd→Nd} (hg:∀ n,(g n).es=n.es):jc (dN ns i g) t=jc ns t:=by
 unfold jc dN;rw [List.map_map];congr 1;apply List.map_congr_left;intro n _;show lK (if n.ino=i then g n else n).es t=_;split
 · rw [hg]
 · rfl
theorem CF (d:Dv) (t q o:Int):opP (opD d o) t q=opD (opP d t q) o:=by
 unfold opP opD;rw [show (jc ({ d with ns:=dN d.ns t (nH q) } :Dv).ns o)=jc d.ns o from yV (fun _=>rfl)];split
 · rfl
 · congr 1;unfold dN;rw [List.filter_map];congr 1;apply List.filter_congr;intro n _;show (!(n.ino == o))= !((if n.ino=t then nH q n else n).ino == o);split <;> rfl
def opO (d:Dv) (o:Option Int):Dv:=match o with | some y=>opD d y | none=>d
def Fx (d:Dv) (i:Int) (nm:ByteArray) (k:Int) (nm2:ByteArray) (x:Int) (o:Option Int) (mv:Bool):Dv:=
 let d1:=opE (opE d i nm 0) k nm2 x;let d2:=opO d1 o
 if mv then opP d2 x k else d2
theorem DOk.rename {d:Dv} (h:DOk NoZ d) {p q:Nd} (hp:p∈d.ns) (hk:p.kind=2) {nm nm2:ByteArray} (hnm:dS nm=true) {x:En} (hx:o7 p.es nm=some x)
  (hq:q∈d.ns) (hqk:q.kind=2) (Jp:dS nm2=true) (mv:Bool) (hmv:∀ n∈d.ns,n.ino=x.ino→(n.kind=2↔mv=true)) (hin:mv=true→∃ n∈d.ns,n.ino=x.ino) (hav:mv=true→∀ j,j≤16→upN d.ns j q.ino≠x.ino)
  (o:Option En) (ho:o7 q.es nm2=o) (hne:∀ y,o=some y→y.ino≠x.ino) (hfull:o=none→q.es.length < 12∨q.ino=p.ino)
  (hold:∀ y,o=some y→∀ n∈d.ns,n.ino=y.ino→n.kind=2→mv=true∧n.es= []):DOk NoZ (Fx d p.ino nm q.ino nm2 x.ino (o.map (·.ino)) mv):=by
 obtain ⟨hxm,hxn⟩:=jk hx;obtain ⟨hx2,hxx,_⟩:=(h.cu p hp).2.2 x hxm;have h0:(x.ino == 0)=false:=by simp;omega
 have h1:=h.leave hp hk hnm hx
 
 let dP:Dv:=if mv then opP (opE d p.ino nm 0) x.ino q.ino else opE d p.ino nm 0;have hdP:dP=if mv then opP (opE d p.ino nm 0) x.ino q.ino else opE d p.ino nm 0:=rfl;have hP:DOk (fun j=>j=x.ino) dP:=by
  rw [hdP];cases mv with
  | false=>exact h1
  | true=>
    rw [if_pos rfl];obtain ⟨n0,hn0,JY⟩:=hin rfl;obtain ⟨a,ha,a1,a2,_⟩:=gB (i:=p.ino) (nm:=nm) (new:=0) hn0;obtain ⟨b,hb,b1,b2,_⟩:=gB (i:=p.ino) (nm:=nm) (new:=0) hq;have:=h1.Fv (a:=a) (q:=b) (by show a.ino=x.ino;rw [a1,JY]) hb (by rw [b2];exact hqk) (fun j hj=>by
      show upN (dN d.ns p.ino (oP nm 0)) j b.ino≠a.ino;rw [uY (h:=oP nm 0) (fun _=>⟨rfl,rfl⟩),b1,a1,JY];exact hav rfl j hj)
    rw [a1,b1,JY] at this;exact this
 have Bh:∀ {m:Nd},m∈dP.ns→∃ n∈d.ns,m.ino=n.ino∧m.kind=n.kind∧(mv=true→n.ino=x.ino→m.par=q.ino)∧(n.ino≠p.ino→m.es=n.es)∧(n.ino=p.ino→m.es=gz nm 0 true n.es):=fun {m} hm=>by
  rw [hdP] at hm;cases mv with
  | false=>
    obtain ⟨n,hn,e1,e2,_,e4,e5⟩:=jJ hm;exact ⟨n,hn,e1,e2,(fun h=>by cases h),e4,e5⟩
  | true=>
    rw [if_pos rfl] at hm;obtain ⟨m1,hm1,e⟩:=dn.1 hm;obtain ⟨n,hn,e1,e2,_,e4,e5⟩:=jJ hm1;refine ⟨n,hn,?_⟩;by_cases hi:m1.ino=x.ino
    · rw [if_pos hi] at e;subst e;exact ⟨e1,e2,fun _ _=>rfl,e4,e5⟩
    · rw [if_neg hi] at e;subst e;exact ⟨e1,e2,fun _ hh=>absurd (by rw [e1];exact hh) hi,e4,e5⟩
 have hhas:∀ {n:Nd},n∈d.ns→∃ m∈dP.ns,m.ino=n.ino∧m.kind=n.kind∧(n.ino≠p.ino→m.es=n.es)∧(n.ino=p.ino→m.es=gz nm 0 true n.es):=fun {n} hn=>by
  obtain ⟨m1,hm1,e1,e2,_,e4,e5⟩:=gB (i:=p.ino) (nm:=nm) (new:=0) hn;rw [hdP];cases mv with
  | false=>exact ⟨m1,hm1,e1,e2,e4,e5⟩
  | true=>
    rw [if_pos rfl];refine ⟨_,dn.2 ⟨m1,hm1,rfl⟩,?_⟩;split
    · exact ⟨e1,e2,e4,e5⟩
    · exact ⟨e1,e2,e4,e5⟩
 obtain ⟨q',hq',q1,q2,q3,q4⟩:=hhas hq;have hsub:∀ e∈q'.es,e∈q.es∧(q.ino=p.ino→e.nm.toList≠nm.toList):=fun e he=>by
  by_cases hi:q.ino=p.ino
  · rw [q4 hi] at he;rcases (eZ nm 0 e _ _).1 he with ⟨g1,g2⟩ | ⟨g1,_⟩
    · exact ⟨g1,fun _ e9=>by rw [e9] at g2;simp at g2⟩
    · cases g1
  · rw [q3 hi] at he;exact ⟨he,fun e9=>absurd e9 hi⟩
 have hlen:(gz nm2 x.ino (x.ino == 0) q'.es).length≤12:=by
  rw [h0];have e1:=iC nm2 x.ino false q'.es;have e2:=(h.cu q hq).1;rw [e1];have e3:q'.es.length≤q.es.length:=by
    by_cases hi:q.ino=p.ino
    · rw [q4 hi,iC];simp;exact List.length_filter_le _ _
    · rw [q3 hi];exact Nat.le_refl _
  have e4:=List.length_filter_le (fun x:En=> !(x.nm.toList == nm2.toList)) q'.es;cases ho2:o with
  | none=>
    rcases hfull ho2 with hf | hf
    · simp;omega
    · have e5:q'.es.length+1≤q.es.length:=by
        have hqp:=bS h.uniq hq hp hf;rw [q4 hf,iC,hqp];have:=Bg hx;simp;omega
      simp;omega
  | some y=>
    rw [ho2] at ho;obtain ⟨hym,hyn⟩:=jk ho;have hyq:y∈q'.es:=by
      by_cases hi:q.ino=p.ino
      · rw [q4 hi];refine (eZ nm 0 y _ _).2 (.inl ⟨hym,?_⟩);cases hc:y.nm.toList == nm.toList with
        | false=>rfl
        | true=>
         have hqp:=bS h.uniq hq hp hi;rw [hqp] at hym;have:=jl (h.cu p hp).2.1 hym hxm (by rw [hxn];simpa using hc);exact absurd (by rw [this]) (hne y ho2)
      · rw [q3 hi];exact hym
    have:(q'.es.filter (fun x=> !(x.nm.toList == nm2.toList))).length < q'.es.length:=by
      apply List.length_filter_lt_length_iff_exists.2;exact ⟨y,hyq,by simpa using hyn⟩
    simp;omega
 have hnx:dP.nx=d.nx:=by rw [hdP];split <;> rfl
 have h3:=hP.enter hq' (by rw [q2];exact hqk) Jp (new:=x.ino) hlen (fun _=>⟨hx2,by rw [hnx];exact hxx,fun m hm hmk e=>by
  obtain ⟨n,hn,e1,e2,e3,_⟩:=Bh hm;refine ⟨rfl,?_⟩;rw [q1];exact e3 ((hmv n hn (by rw [← e1];exact e)).1 (by rw [← e2];exact hmk)) (by rw [← e1];exact e)⟩)
 rw [q1] at h3
 
 have hfin:DOk NoZ (opO (opE dP q.ino nm2 x.ino) (o.map (·.ino))):=by
  cases ho2:o with
  | none=>
    refine h3.weaken fun m hm hmk=>⟨?_,fun hf=>hf.elim⟩;rintro ⟨hf | ⟨e,he,en,ei⟩,hne2⟩
    · exact hne2 hf
    · rw [ho2] at ho;have:=List.find?_eq_none.1 ho e (hsub e he).1;rw [en] at this;simp at this
  | some y=>
    rw [ho2] at ho;obtain ⟨hym,hyn⟩:=jk ho;have hy2:=((h.cu q hq).2.2 y hym).1;refine h3.drop (t:=y.ino) (by omega) (fun m hm hmk hz=>?_) (fun m hm hmk e=>?_)
    · obtain ⟨hf | ⟨e,he,en,ei⟩,hne2⟩:=hz
      · exact absurd hf hne2
      · rw [← ei,jl (h.cu q hq).2.1 (hsub e he).1 hym (by rw [en,hyn])]
    · obtain ⟨m1,hm1,e1,e2,_,e4,e5⟩:=jJ hm;obtain ⟨n,hn,f1,f2,_,f4,f5⟩:=Bh hm1;have hny:n.ino=y.ino:=(by rw [← f1, ← e1];exact e);have hes:=(hold y ho2 n hn hny (by rw [← f2, ← e2];exact hmk)).2;have hnp:n.ino≠p.ino:=fun e9=>by
        have:=bS h.uniq hn hp e9;rw [this] at hes;rw [hes] at hxm;cases hxm
      have hnq:n.ino≠q.ino:=fun e9=>by
        have:=bS h.uniq hn hq e9;rw [this] at hes;rw [hes] at hym;cases hym
      rw [e4 (by rw [f1];exact hnq),f4 hnp];exact hes
 have e:Fx d p.ino nm q.ino nm2 x.ino (o.map (·.ino)) mv=opO (opE dP q.ino nm2 x.ino) (o.map (·.ino)):=by
  unfold Fx opO;rw [hdP];cases mv with
  | false=>rfl
  | true=>
    cases o with
    | none=>simp only [if_pos,Option.map_none];rw [← ve]
    | some y=>simp only [if_pos,Option.map_some];rw [← ve, ← CF]
 rw [e];exact hfin
def FOk (f:List Dv):Prop:=1≤f.length∧f.length≤3∧∀ d∈f,DOk NoZ d
theorem jK {f:List Dv} {dev:Int} {d:Dv} (h:fA f dev=some d):0≤dev∧f[dev.toNat]? =some d:=by
 unfold fA at h;split at h
 · cases h
 · exact ⟨by omega,h⟩
theorem bz {f:List Dv} {dev:Int} {d:Dv} (h:fA f dev=some d):d∈f:=List.mem_of_getElem? (jK h).2
theorem aG {f:List Dv} {dev i:Int} {n:Nd} (h:aD f dev i=some n):∃ d,fA f dev=some d∧n∈d.ns∧n.ino=i:=by
 unfold aD at h;cases hd:fA f dev with
 | none=>rw [hd] at h;cases h
 | some d=>
  rw [hd] at h;exact ⟨d,rfl,rJ h⟩
theorem iD {f:List Dv} {dev:Int} {d:Dv} (h:fA f dev=some d) (hu:(d.ns.map (·.ino)).Nodup) {n:Nd} (hn:n∈d.ns):aD f dev n.ino=some n:=by
 unfold aD;rw [h];exact rM hu hn
theorem kH {f:List Dv} {dev i:Int} (h:bM f dev i=true):∃ n,aD f dev i=some n∧n.kind=2:=by
 unfold bM at h;split at h
 · rename_i n hn;exact ⟨n,hn,by simpa using h⟩
 · cases h
theorem dU {f:List Dv} {dev:Int} {d:Dv} (h:fA f dev=some d) (g:Dv→Dv):mf f dev.toNat g=f.set dev.toNat (g d):=by
 obtain ⟨_,h2⟩:=jK h;unfold mf;apply List.ext_getElem?;intro i;rw [List.getElem?_modify,List.getElem?_set];obtain ⟨hl,_⟩:=List.getElem?_eq_some_iff.1 h2;by_cases hi:dev.toNat=i
 · subst hi;rw [if_pos rfl,if_pos hl,h2];simp
 · rw [if_neg hi];simp [hi]
theorem bA {f:List Dv} {dev:Int} {d:Dv} (h:fA f dev=some d) (d' :Dv):fA (f.set dev.toNat d') dev=some d' :=by
 obtain ⟨h1,h2⟩:=jK h;obtain ⟨hl,_⟩:=List.getElem?_eq_some_iff.1 h2;unfold fA;rw [if_neg (by omega),List.getElem?_set,if_pos rfl,if_pos hl]
theorem FOk.set {f:List Dv} (h:FOk f) {j:Nat} {d' :Dv} (hd:DOk NoZ d'):FOk (f.set j d'):=by
 refine ⟨by rw [List.length_set];exact h.1,by rw [List.length_set];exact h.2.1,fun d hdm=>?_⟩;rcases List.mem_or_eq_of_mem_set hdm with hm | rfl
 · exact h.2.2 d hm
 · exact hd
theorem fH {f:List Dv} {dev i:Int} {d:Dv} (hd:fA f dev=some d) {n:Nd} (hn:n∈d.ns) (hi:n.ino=i):∃ k,fD f dev i=some k∧∃ hk:k < d.ns.length,(d.ns[k]).ino=i:=by
 unfold fD;rw [hd];cases hx:jh d.ns i with
 | none=>
  unfold jh at hx;rw [List.findIdx?_eq_none_iff] at hx;have:=hx n hn;rw [hi] at this;simp at this
 | some k=>exact ⟨k,hx,iU hx⟩
theorem jm {d:Dv} {k:Nat} {i:Int} (hu:(d.ns.map (·.ino)).Nodup) (hk:k < d.ns.length) (hi:(d.ns[k]).ino=i) (h:Nd→Nd):uQ d k h= { d with ns:=dN d.ns i h } :=by
 unfold uQ;rw [mi h hu hk hi]
theorem bX {f:List Dv} {dev i:Int} {d:Dv} (hd:fA f dev=some d) (hu:(d.ns.map (·.ino)).Nodup) {n:Nd} (hn:n∈d.ns) (hi:n.ino=i) (nm:ByteArray) (new:Int):iT f dev i nm new=f.set dev.toNat (opE d i nm new):=by
 obtain ⟨k,hk,hkl,hki⟩:=fH hd hn hi;unfold iT;rw [hk];show mf _ _ _=_;rw [dU hd,jm hu hkl hki];rfl
def lL (f:List Dv) (dev ino:Int):List Dv:=if 0 < iI f dev ino then f else mf f dev.toNat (fun d=> { d with ns:=d.ns.filter (fun n=> !(n.ino == ino)) })
theorem gZ {f:List Dv} {dev t:Int} {d:Dv} (hd:fA f dev=some d):lL f dev t=f.set dev.toNat (opD d t):=by
 obtain ⟨_,h2⟩:=jK hd;obtain ⟨hl,he⟩:=List.getElem?_eq_some_iff.1 h2;have hself:f.set dev.toNat d=f:=by rw [← he];exact List.set_getElem_self _
 unfold lL;rw [dU hd];have hlk:iI f dev t=match jh d.ns t with | none=>0 | some _=>(jc d.ns t:Int):=by unfold iI;rw [hd]
 rw [hlk];cases hi:jh d.ns t with
 | some k=>
  simp only;unfold opD;by_cases hc:0 < jc d.ns t
  · rw [if_pos (by omega),if_pos hc,hself]
  · rw [if_neg (by omega),if_neg hc]
 | none=>
  simp only;rw [if_neg (by omega)];have hno:d.ns.filter (fun n=> !(n.ino == t))=d.ns:=by
    rw [List.filter_eq_self];intro n hn;unfold jh at hi;rw [List.findIdx?_eq_none_iff] at hi;rw [hi n hn];rfl
  unfold opD;split
  · rw [hno]
  · rfl
theorem bB {f:List Dv} {dev i:Int} {nm:ByteArray} (h:aZ f dev i nm=0):∃ n,aD f dev i=some n∧n.kind=2∧dS nm=true:=by
 unfold aZ at h;split at h
 · omega
 · rename_i n hn;split at h
   · rename_i hk;split at h
     · rename_i hp;exact ⟨n,hn,by simpa using hk,hp⟩
     · omega
   · omega
theorem qP {f:List Dv} {dev i:Int} {nm:ByteArray} {n:Nd} (hn:aD f dev i=some n) (hk:n.kind=2) (h:(cB f dev i nm).1≠0):o7 n.es nm=none:=by
 unfold cB at h;rw [hn] at h;have hk' :(n.kind == 2)=true:=by simpa using hk
 simp only [hk',if_true] at h;split at h
 · exact absurd rfl h
 · assumption
theorem gD {f:List Dv} {dev i:Int} {nm:ByteArray} {n:Nd} (hn:aD f dev i=some n) (hk:n.kind=2) {r:Int×Int} (h:cB f dev i nm=(0,r)):∃ x,o7 n.es nm=some x∧r=(dev,x.ino):=by
 unfold cB at h;rw [hn] at h;have hk' :(n.kind == 2)=true:=by simpa using hk
 simp only [hk',if_true] at h;split at h
 · rename_i x hx;injection h with _ h;exact ⟨x,hx,h.symm⟩
 · injection h with h _;cases h
def iF (d:Dv) (n:Nd) (par:Int):Nd:=⟨d.nx,n.kind,n.mode,n.uid,n.gid,if n.kind=2 then par else 0,n.tg, []⟩
def yX (f:List Dv) (dev ino:Int) (nm:ByteArray) (n:Nd) (f' :List Dv):Prop:=
 aZ f dev ino nm=0∧n.tg.size≤128∧(cB f dev ino nm).1≠0∧kv f dev ino=false∧
 ∃ d,fA f dev=some d∧d.ns.length < 16∧d.nx≠1073741824∧f' =iT (mf f dev.toNat (fun d=>⟨d.nx+1,d.ns ++ [iF d n ino]⟩)) dev ino nm d.nx
theorem FOk.make {f f' :List Dv} {dev ino:Int} {nm:ByteArray} {n:Nd} (h:FOk f) (hm:yX f dev ino nm n f'):FOk f' :=by
 obtain ⟨hp,htg,hl,hfu,d,hd,hlen,hnx,rfl⟩:=hm;obtain ⟨p,hpn,hpk,hnm⟩:=bB hp;have hno:=qP hpn hpk hl;obtain ⟨d2,hd2,hpm,hpi⟩:=aG hpn;rw [hd] at hd2;cases hd2;have hok:=h.2.2 d (bz hd);have PE:=hok.nxm;have h1:=hok.more (iF d n ino) rfl rfl hlen (by omega) htg (fun hk=>⟨p,hpm,by
   show p.ino=if n.kind=2 then ino else 0;have hk:n.kind=2:=hk;rw [if_pos hk,hpi],hpk⟩)
 have Nt:p∈d.ns ++ [iF d n ino]:=List.mem_append_left _ hpm;rw [dU hd,bX (bA hd _) h1.uniq Nt hpi,List.set_set];refine h.set ?_;have hfull:p.es.length < 12:=by
   unfold kv at hfu;rw [hpn] at hfu;have:=of_decide_eq_false hfu;omega
 have hnx2:=hok.nx2;rw [← hpi];have hok1:DOk (fun j=>j=d.nx) (⟨d.nx+1,d.ns ++ [iF d n p.ino]⟩:Dv):=by rw [hpi];exact h1
 have Nu:p∈d.ns ++ [iF d n p.ino]:=List.mem_append_left _ hpm;refine hok1.Fw Nu hpk hnm hno hfull hnx2 (by show d.nx < d.nx+1;omega) (fun m hm hmk e=>⟨rfl,?_⟩) (fun m _ _ e=>e);rcases List.mem_append.1 hm with hm | hm
 · have:=(hok.rng m hm).2;omega
 · rw [List.mem_singleton.1 hm] at hmk ⊢;have hk:n.kind=2:=hmk;show (if n.kind=2 then p.ino else 0)=p.ino;rw [if_pos hk]
def yY (f:List Dv) (dev ino:Int) (nm:ByteArray) (ib mr:Int) (f' :List Dv):Prop:=
 aZ f dev ino nm=0∧(cB f dev ino nm).1≠0∧kv f dev ino=false∧ib=dev∧(∃ n,aD f ib mr=some n∧n.kind≠2)∧f' =iT f dev ino nm mr
theorem FOk.link {f f' :List Dv} {dev ino ib mr:Int} {nm:ByteArray} (h:FOk f) (hm:yY f dev ino nm ib mr f'):FOk f' :=by
 obtain ⟨hp,hl,hfu,rfl,⟨a,ha,hak⟩,rfl⟩:=hm;obtain ⟨p,hpn,hpk,hnm⟩:=bB hp;have hno:=qP hpn hpk hl;obtain ⟨d,hd,hpm,hpi⟩:=aG hpn;obtain ⟨d2,hd2,ham,hai⟩:=aG ha;rw [hd] at hd2;cases hd2;have hok:=h.2.2 d (bz hd);rw [bX hd hok.uniq hpm hpi];refine h.set ?_;have hfull:p.es.length < 12:=by
  unfold kv at hfu;rw [hpn] at hfu;have:=of_decide_eq_false hfu;omega
 have hr:=hok.rng a ham;have hne:a.ino≠1:=fun e=>by
  obtain ⟨r,l,e1,e2,e3⟩:=hok.root;have hrm:r∈d.ns:=by rw [e1];exact List.mem_cons_self ..
  have:=bS hok.uniq ham hrm (by rw [e,e2]);rw [this] at hak;exact hak e3
 rw [← hpi];refine hok.Fw hpm hpk hnm hno hfull (by omega) (by rw [← hai];exact hr.2) (fun m hm hmk e=>?_) (fun _ _ _ hf=>hf.elim);have:=bS hok.uniq hm ham (by rw [e,hai]);rw [this] at hmk;exact absurd hmk hak
def kT (f:List Dv) (dev ino:Int) (nm:ByteArray) (t:Int) (f' :List Dv):Prop:=
 aZ f dev ino nm=0∧cB f dev ino nm=(0,dev,t)∧(bM f dev t=true→gN f dev t=true)∧f' =lL (iT f dev ino nm 0) dev t
theorem FOk.unlink {f f' :List Dv} {dev ino t:Int} {nm:ByteArray} (h:FOk f) (hm:kT f dev ino nm t f'):FOk f' :=by
 obtain ⟨hp,hl,he,rfl⟩:=hm;obtain ⟨p,hpn,hpk,hnm⟩:=bB hp;obtain ⟨x,hx,ex⟩:=gD hpn hpk hl;injection ex with _ ex;subst ex;obtain ⟨d,hd,hpm,hpi⟩:=aG hpn;have hok:=h.2.2 d (bz hd);rw [bX hd hok.uniq hpm hpi,gZ (bA hd _),List.set_set];refine h.set ?_;rw [← hpi];refine hok.unlink hpm hpk hnm hx fun n hn e hk=>?_;have hnn:=iD hd hok.uniq hn;rw [e] at hnn;have JZ:bM f dev x.ino=true:=by unfold bM;rw [hnn];simpa using hk
 have hem:=he JZ;unfold gN at hem;rw [hnn] at hem;have:(n.es.length:Int)=0:=by simpa using hem
 exact List.eq_nil_of_length_eq_zero (by omega)
def lI (mode uid gid:Int) (n:Nd):Nd:= { n with mode:=mode,uid:=uid,gid:=gid }
def yL (f:List Dv) (dev ino mode uid gid:Int) (f' :List Dv):Prop:=
 ∃ k,fD f dev ino=some k∧f' =mf f dev.toNat (fun d=>uQ d k (lI mode uid gid))
theorem FOk.lM {f f' :List Dv} {dev ino mode uid gid:Int} (h:FOk f) (hm:yL f dev ino mode uid gid f'):FOk f' :=by
 obtain ⟨k,hk,rfl⟩:=hm;cases hd:fA f dev with
 | none=>unfold fD at hk;rw [hd] at hk;cases hk
 | some d=>
  have hk' :jh d.ns ino=some k:=by unfold fD at hk;rw [hd] at hk;exact hk
  obtain ⟨hkl,hki⟩:=iU hk';have hok:=h.2.2 d (bz hd);rw [dU hd,jm hok.uniq hkl hki];exact h.set (hok.attr _ _ fun _=>⟨rfl,rfl,rfl,rfl,rfl⟩)
def upF (f:List Dv) (dev:Int) (i:Int):Int:=match aD f dev i with | some n=>n.par | none=>0
def fI (f:List Dv) (dev t:Int):Nat→Int→Bool
 | 0,_=>false
 | k+1,i=>i == t || fI f dev t k (upF f dev i)
theorem rP {f:List Dv} {dev t:Int} {d:Dv} (hd:fA f dev=some d):∀ {k:Nat} {i:Int},fI f dev t k i=false→∀ j,j < k→upN d.ns j i≠t
 | 0,_,_,j,hj=>by omega
 | k+1,i,h,j,hj=>by
  unfold fI at h;rw [Bool.or_eq_false_iff] at h;cases j with
  | zero=>intro e;have:=h.1;rw [show i=t from e] at this;simp at this
  | succ j=>
   have:=rP hd h.2 j (by omega);unfold upN;have e:upF f dev i=upI d.ns i:=(by unfold upF upI aD;rw [hd];rfl);rw [e] at this;exact this
def vg (f:List Dv) (dev:Int) (o:Option Int):List Dv:=match o with | some y=>lL f dev y | none=>f
def kU (f:List Dv) (dev i:Int) (nm:ByteArray) (k:Int) (nm2:ByteArray) (t:Int) (f' :List Dv):Prop:=
 aZ f dev i nm=0∧aZ f dev k nm2=0∧cB f dev i nm=(0,dev,t)∧(bM f dev t=true→fI f dev t 17 k=false)∧
 (f' =f∨
  ∃ o:Option Int,(match o with
    | some y=>cB f dev k nm2=(0,dev,y)∧y≠t∧(bM f dev y=true→bM f dev t=true∧gN f dev y=true)
    | none=>(cB f dev k nm2).1≠0∧(kv f dev k=false∨k=i))∧
   ∃ f1,f1=vg (iT (iT f dev i nm 0) dev k nm2 t) dev o∧
   (if bM f dev t=true then ∃ q,fD f1 dev t=some q∧f' =mf f1 dev.toNat (fun d=>uQ d q (nH k)) else f' =f1))
theorem bT {d:Dv} {i:Int} {nm:ByteArray} {new:Int} (h:(d.ns.map (·.ino)).Nodup):((opE d i nm new).ns.map (·.ino)).Nodup:=by
 show ((dN _ _ _).map _).Nodup;rw [iB (h:=oP nm new) (fun _=>rfl)];exact h
theorem nJ {d:Dv} {t:Int} (h:(d.ns.map (·.ino)).Nodup):((opD d t).ns.map (·.ino)).Nodup:=by
 unfold opD;split
 · exact h
 · exact List.Nodup.sublist (List.Sublist.map _ List.filter_sublist) h
theorem FOk.rename {f f' :List Dv} {dev i k t:Int} {nm nm2:ByteArray} (h:FOk f) (hm:kU f dev i nm k nm2 t f'):FOk f' :=by
 obtain ⟨hp,hp2,hl,hbe,rfl | ⟨o,ho,f1,hf1,hf'⟩⟩:=hm
 · exact h
 obtain ⟨p,hpn,hpk,hnm⟩:=bB hp;obtain ⟨q,hqn,hqk,Jp⟩:=bB hp2;obtain ⟨x,hx,ex⟩:=gD hpn hpk hl;injection ex with _ ex;subst ex;obtain ⟨d,hd,hpm,hpi⟩:=aG hpn;obtain ⟨d2,hd2,hqm,hqi⟩:=aG hqn;rw [hd] at hd2;cases hd2;have hok:=h.2.2 d (bz hd);obtain ⟨q',hq',q1,_⟩:=gB (i:=i) (nm:=nm) (new:=0) hqm;have h1:iT f dev i nm 0=f.set dev.toNat (opE d i nm 0):=bX hd hok.uniq hpm hpi nm 0;have h2:iT (iT f dev i nm 0) dev k nm2 x.ino=f.set dev.toNat (opE (opE d i nm 0) k nm2 x.ino):=by
   rw [h1,bX (bA hd _) (bT hok.uniq) hq' (by rw [q1,hqi]),List.set_set]
 have h3:f1=f.set dev.toNat (opO (opE (opE d i nm 0) k nm2 x.ino) o):=by
   rw [hf1];cases o with
   | none=>exact h2
   | some y=>show lL _ _ _=_;rw [h2,gZ (bA hd _),List.set_set];rfl
 have hu3:((opO (opE (opE d i nm 0) k nm2 x.ino) o).ns.map (·.ino)).Nodup:=by
   cases o with
   | none=>exact bT (bT hok.uniq)
   | some y=>exact nJ (bT (bT hok.uniq))
 have h4:f' =f.set dev.toNat (Fx d i nm k nm2 x.ino o (bM f dev x.ino)):=by
   unfold Fx;cases hdx:bM f dev x.ino with
   | false=>
     rw [hdx,if_neg (by decide)] at hf';rw [hf',h3];cases o <;> rfl
   | true=>
     rw [hdx,if_pos rfl] at hf';obtain ⟨r,hr,hf'⟩:=hf';have hd3:fA f1 dev=some (opO (opE (opE d i nm 0) k nm2 x.ino) o):=by
      rw [h3];exact bA hd _
     have hr' :jh (opO (opE (opE d i nm 0) k nm2 x.ino) o).ns x.ino=some r:=by
      unfold fD at hr;rw [hd3] at hr;exact hr
     obtain ⟨hrl,hri⟩:=iU hr';rw [hf',dU hd3,jm hu3 hrl hri,h3,List.set_set];cases o <;> rfl
 rw [h4];refine h.set ?_;have Fy:∀ n∈d.ns,bM f dev n.ino=true↔n.kind=2:=fun n hn=>by
   unfold bM;rw [iD hd hok.uniq hn];show (n.kind == 2)=true↔_;simp
 have hemp:∀ n∈d.ns,gN f dev n.ino=true→n.es= []:=fun n hn he=>by
   unfold gN at he;rw [iD hd hok.uniq hn] at he;have:(n.es.length:Int)=0:=(by simpa using he);exact List.eq_nil_of_length_eq_zero (by omega)
 obtain ⟨oe,hoe,hoo⟩:∃ oe:Option En,o7 q.es nm2=oe∧o=oe.map (·.ino):=by
   cases o with
   | none=>exact ⟨none,qP hqn hqk ho.1,rfl⟩
   | some y=>
     obtain ⟨z,hz,ez⟩:=gD hqn hqk ho.1;injection ez with _ ez;exact ⟨some z,hz,by rw [ez];rfl⟩
 rw [hoo, ← hpi, ← hqi];refine hok.rename hpm hpk hnm hx hqm hqk Jp _ (fun n hn e=>by rw [← e];exact (Fy n hn).symm) (fun hmv=>?_) (fun hmv j hj=>?_) oe hoe (fun y hy=>?_) (fun hy=>?_) (fun y hy n hn e hk=>?_)
 · obtain ⟨a,ha,_⟩:=kH hmv;obtain ⟨d3,hd3,ham,hai⟩:=aG ha;rw [hd] at hd3;cases hd3;exact ⟨a,ham,hai⟩
 · rw [hqi];exact rP hd (hbe hmv) j (by omega)
 · rw [hy] at hoo;rw [hoo] at ho;exact ho.2.1
 · rw [hy] at hoo;rw [hoo] at ho;rcases ho.2 with hf | hf
   · left;unfold kv at hf;rw [hqn] at hf;have:=of_decide_eq_false hf;omega
   · right;rw [hqi,hpi,hf]
 · rw [hy] at hoo;rw [hoo] at ho;obtain ⟨g1,g2⟩:=ho.2.2 (by show bM f dev y.ino=true;rw [← e];exact (Fy n hn).2 hk);exact ⟨g1,hemp n hn (by rw [e];exact g2)⟩
end Go.Proofs.YtollifnnpihfdaaGreatDoor
