import Derived.Test.YtollifnnpihfdaaGreatDoorW08
set_option maxRecDepth 100000
set_option maxHeartbeats 64000000
set_option linter.all false
namespace Go.Proofs.YtollifnnpihfdaaGreatDoor
open Go.RowKit
theorem FOk.new {n:Nat} (h1:1≤n) (h3:n≤3):FOk (List.replicate n ⟨2, [⟨1,2,493,0,0,1,⟨#[]⟩, []⟩]⟩):=by
 refine ⟨by simpa using h1,by simpa using h3,fun d hd=>?_⟩;rw [(List.mem_replicate.1 hd).2];have hm:∀ {n:Nd},n∈ [(⟨1,2,493,0,0,1,⟨#[]⟩, []⟩:Nd)]→n=⟨1,2,493,0,0,1,⟨#[]⟩, []⟩:=fun h=>List.mem_singleton.1 h;refine ⟨by decide,by decide,by decide,⟨_,_,rfl,rfl,rfl⟩,by decide,?_,?_,?_,?_,?_,?_⟩
 · intro n hn;rw [hm hn];decide
 · intro n hn;rw [hm hn];decide
 · intro n hn;rw [hm hn];exact ⟨by decide,by decide,fun e he=>by cases he⟩
 · intro n hn _ p hp e he;rw [hm hp] at he;cases he
 · intro n hn _ h1;rw [hm hn] at h1;exact absurd rfl h1
 · intro n hn _;rw [hm hn];exact ⟨0, .root⟩
structure Mt where
 dev:Int
 od:Int
 oi:Int
def onF (ms:List Mt) (dev:Int):Option (Int×Int):=(ms.find? (fun m=>m.dev == dev)).map (fun m=>(m.od,m.oi))
def eU (ms:List Mt) (dev:Int):Bool:=(onF ms dev).isSome || dev == 0
def xh (ms:List Mt) (d i:Int):Option Int:=(ms.find? (fun m=>m.od == d && m.oi == i)).map (·.dev)
inductive MOk (f:List Dv):List Mt→Prop
 | nil:MOk f []
 | app {ms:List Mt} {m:Mt} :MOk f ms→1≤m.dev→m.dev < f.length→eU ms m.dev=false→eU ms m.od=true→bI f m.od m.oi=true→MOk f (ms ++ [m])
theorem mq (ms:List Mt) (m:Mt) (dev:Int):onF (ms ++ [m]) dev=(onF ms dev).or (if m.dev == dev then some (m.od,m.oi) else none):=by
 unfold onF;rw [List.find?_append];cases ms.find? (fun m=>m.dev == dev) with
 | some x=>rfl
 | none=>
  rw [Option.none_or,Option.map_none,Option.none_or,List.find?_cons];cases m.dev == dev <;> rfl
theorem MOk.zero {f:List Dv} {ms:List Mt} (h:MOk f ms):onF ms 0=none:=by
 induction h with
 | nil=>rfl
 | @app ms m _ h1 _ _ _ _ ih=>
  rw [mq,ih];have:(m.dev == 0)=false:=by simp;omega
  rw [this];rfl
theorem MOk.len {f:List Dv} {ms:List Mt} (h:MOk f ms):(ms.map (·.dev)).Nodup∧∀ m∈ms,1≤m.dev∧m.dev < f.length:=by
 induction h with
 | nil=>exact ⟨by simp,fun _ h=>by cases h⟩
 | @app ms m _ h1 h2 h3 _ _ ih=>
  refine ⟨?_,fun x hx=>?_⟩
  · rw [List.map_append,List.nodup_append];refine ⟨ih.1,by simp,fun a ha b hb=>?_⟩;have hb:b=m.dev:=(by simpa using hb);obtain ⟨x,hx,e⟩:=List.mem_map.1 ha;intro e2;unfold eU onF at h3;rw [Bool.or_eq_false_iff] at h3;have h4:=h3.1;rw [Option.isSome_map] at h4;have:=List.find?_eq_none.1 (Option.isSome_eq_false_iff.1 h4 |> Option.isNone_iff_eq_none.1) x hx;rw [show x.dev=a from e,e2,hb] at this;simp at this
  · rcases List.mem_append.1 hx with hx | hx
    · exact ih.2 x hx
    · rw [List.mem_singleton.1 hx];exact ⟨h1,h2⟩
theorem MOk.few {f:List Dv} {ms:List Mt} (h:MOk f ms) (hf:f.length≤3):ms.length≤2:=by
 obtain ⟨h1,h2⟩:=h.len;have:=jf h1 (M:= [1,2]) (fun x hx=>by
  obtain ⟨m,hm,e⟩:=List.mem_map.1 hx;have:=h2 m hm;rw [show m.dev=x from e] at this;have:x=1∨x=2:=by omega
  simpa using this)
 simpa using this
theorem MOk.Ih {f:List Dv} {ms:List Mt} (h:MOk f ms):∀ m∈ms,bI f m.od m.oi=true:=by
 induction h with
 | nil=>intro m hm;cases hm
 | app _ _ _ _ _ h5 ih=>
  intro x hx;rcases List.mem_append.1 hx with hx | hx
  · exact ih x hx
  · rw [List.mem_singleton.1 hx];exact h5
theorem MOk.files {f f' :List Dv} {ms:List Mt} (h:MOk f ms) (hl:f'.length=f.length) (hd:∀ m∈ms,bI f' m.od m.oi=true):MOk f' ms:=by
 induction h with
 | nil=>exact .nil
 | app _ h1 h2 h3 h4 _ ih=>
  exact .app (ih fun m hm=>hd m (List.mem_append_left _ hm)) h1 (by rw [hl];exact h2) h3 h4 (hd _ (List.mem_append_right _ (List.mem_singleton.2 rfl)))
theorem iP (ms:List Mt) (m:Mt) (dev:Int):eU (ms ++ [m]) dev=(eU ms dev || m.dev == dev):=by
 unfold eU;rw [mq];cases onF ms dev <;> cases m.dev == dev <;> cases dev == 0 <;> rfl
theorem MOk.remove {f:List Dv} {ms:List Mt} {dev:Int} (h:MOk f ms) (hno:∀ m∈ms,m.od≠dev):MOk f (ms.filter (fun m=> !(m.dev == dev)))∧∀ x,x≠dev→eU (ms.filter (fun m=> !(m.dev == dev))) x=eU ms x:=by
 induction h with
 | nil=>exact ⟨.nil,fun _ _=>rfl⟩
 | @app ms m _ h1 h2 h3 h4 h5 ih=>
  obtain ⟨i1,i2⟩:=ih fun m hm=>hno m (List.mem_append_left _ hm);have hod:m.od≠dev:=hno m (List.mem_append_right _ (List.mem_singleton.2 rfl));rw [List.filter_append];cases hm:m.dev == dev with
  | true=>
   have e: [m].filter (fun m=> !(m.dev == dev))= []:=(by simp [hm]);rw [e,List.append_nil];refine ⟨i1,fun x hx=>?_⟩;rw [i2 x hx,iP];have:(m.dev == x)=false:=by
    have h9:m.dev=dev:=(by simpa using hm);rw [h9];simpa using fun e=>hx e.symm
   rw [this,Bool.or_false]
  | false=>
   have e: [m].filter (fun m=> !(m.dev == dev))= [m]:=(by simp [hm]);have hmd:m.dev≠dev:=(by simpa using hm);rw [e];refine ⟨.app i1 h1 h2 (by rw [i2 _ hmd];exact h3) (by rw [i2 _ hod];exact h4) h5,fun x hx=>?_⟩;rw [iP,iP,i2 x hx]
def dS (f:List Dv) (dev ino:Int):ByteArray:=
 match (match aF f dev (upF f dev ino) with | some p=>p.es.find? (fun e:En=>e.ino == ino) | none=>none) with
 | some e=>e.nm
 | none=>⟨#[]⟩
theorem FOk.root {f:List Dv} (h:FOk f) {dev:Int} {d:Dv} (hd:eQ f dev=some d):bI f dev 1=true:=by
 have hok:=h.2.2 d (bn hd);obtain ⟨n,r,e,e1,e2⟩:=hok.root;have hn:n∈d.ns:=by rw [e];exact List.mem_cons_self ..
 have:=gU hd hok.uniq hn;rw [e1] at this;unfold bI;rw [this];simpa using e2
theorem jQ {f:List Dv} {dev i:Int} (h:bI f dev i=true):∃ d n,eQ f dev=some d∧n∈d.ns∧n.ino=i∧n.kind=2∧aF f dev i=some n:=by
 obtain ⟨n,hn,hk⟩:=jP h;obtain ⟨d,hd,hm,hi⟩:=aG hn;exact ⟨d,n,hd,hm,hi,hk,hn⟩
def SOk (f:List Dv) (ms:List Mt):Prop:=FOk f∧MOk f ms
theorem jl {f:List Dv} (h:FOk f) (dev ino:Int):(dS f dev ino).size≤12:=by
 unfold dS;split
 · rename_i e he;split at he
   · rename_i p hp;obtain ⟨d,hd,hm,_⟩:=aG hp;have hok:=h.2.2 d (bn hd);have:=((hok.bW p hm).2.2 e (List.mem_of_find?_eq_some he)).2.2;unfold dM at this;simp only [Bool.and_eq_true,decide_eq_true_eq] at this;exact this.1.1.1.2
   · cases he
 · decide
def kK (T:Int→Prop) (d d' :Dv):Prop:=∀ n∈d.ns,n.kind=2→¬ T n.ino→∃ m∈d'.ns,m.ino=n.ino∧m.kind=2
theorem kK.trans {T:Int→Prop} {a b c:Dv} (h:kK T a b) (k:kK T b c):kK T a c:=fun n hn hk ht=>by
 obtain ⟨m,hm,e1,e2⟩:=h n hn hk ht;obtain ⟨r,hr,e3,e4⟩:=k m hm e2 (by rw [e1];exact ht);exact ⟨r,hr,e3.trans e1,e4⟩
theorem j6 (T:Int→Prop) (d:Dv) (i:Int) (g:Nd→Nd) (hg:∀ n,(g n).ino=n.ino∧(g n).kind=n.kind):kK T d { d with ns:=dH d.ns i g } :=fun n hn hk _=>by
 refine ⟨_,cO.2 ⟨n,hn,rfl⟩,?_⟩;split
 · exact ⟨(hg n).1,by rw [(hg n).2];exact hk⟩
 · exact ⟨rfl,hk⟩
theorem dU (T:Int→Prop) (d:Dv) (i:Int) (nm:ByteArray) (new:Int):kK T d (opE d i nm new):=j6 T d i _ fun _=>⟨rfl,rfl⟩
theorem nP (d:Dv) (t:Int):kK (fun j=>j=t) d (opD d t):=fun n hn hk ht=>by
 unfold opD;split
 · exact ⟨n,hn,rfl,hk⟩
 · exact ⟨n,List.mem_filter.2 ⟨hn,by simpa using ht⟩,rfl,hk⟩
theorem qV (T:Int→Prop) (d:Dv) (x:Nd) (nx:Int):kK T d ⟨nx,d.ns ++ [x]⟩:=fun n hn hk _=>⟨n,List.mem_append_left _ hn,rfl,hk⟩
def kL (dev:Int) (T:Int→Prop) (f f' :List Dv):Prop:=f'.length=f.length∧∀ a b,bI f a b=true→¬ (a=dev∧T b)→bI f' a b=true
theorem kL.refl (dev:Int) (T:Int→Prop) (f:List Dv):kL dev T f f:=⟨rfl,fun _ _ h _=>h⟩
theorem fA {T:Int→Prop} {f:List Dv} {dev:Int} {d d' :Dv} (hd:eQ f dev=some d) (hk:kK T d d') (hu:(d'.ns.map (·.ino)).Nodup):kL dev T f (f.set dev.toNat d'):=by
 refine ⟨by rw [List.length_set],fun a b h hne=>?_⟩;obtain ⟨e,n,hde,hn,hi,hkn,_⟩:=jQ h;by_cases ha:a=dev
 · subst ha;rw [hd] at hde;cases hde;obtain ⟨m,hm,e1,e2⟩:=hk n hn hkn (fun ht=>hne ⟨rfl,by rw [← hi];exact ht⟩);have:=gU (bq hd d') hu hm;rw [e1,hi] at this;unfold bI;rw [this];simpa using e2
 · have e1:eQ (f.set dev.toNat d') a=eQ f a:=by
    have h0:=(jh hd).1;have h1:=(jh hde).1;unfold eQ;rw [if_neg (by omega),if_neg (by omega),List.getElem?_set];rw [if_neg (by omega)]
   have e2:aF (f.set dev.toNat d') a b=aF f a b:=(by unfold aF;rw [e1]);unfold bI at h ⊢;rw [e2];exact h
theorem wY.keep {f f' :List Dv} {dev ino:Int} {nm:ByteArray} {n:Nd} (h:FOk f) (hm:wY f dev ino nm n f') (T:Int→Prop):kL dev T f f' :=by
 have h9:=h.make hm;obtain ⟨hp,htg,hl,hfu,d,hd,hlen,hnx,rfl⟩:=hm;obtain ⟨p,hpn,hpk,hnm⟩:=bA hp;obtain ⟨d2,hd2,hpm,hpi⟩:=aG hpn;rw [hd] at hd2;cases hd2;have hok:=h.2.2 d (bn hd);have hu:((d.ns ++ [gW d n ino]).map (·.ino)).Nodup:=by
  rw [List.map_append,List.nodup_append];refine ⟨hok.uniq,by simp,fun a ha b hb=>?_⟩;obtain ⟨m,hm,e1⟩:=List.mem_map.1 ha;have hb:b=d.nx:=by simpa [gW] using hb
  have:=(hok.rng m hm).2;rw [hb, ← e1];show m.ino≠d.nx;omega
 rw [dN hd,bS (bq hd _) hu (List.mem_append_left _ hpm) hpi,List.set_set];exact fA hd ((qV T d _ _).trans (dU T _ _ _ _)) (bP hu)
theorem wZ.keep {f f' :List Dv} {dev ino gG ll:Int} {nm:ByteArray} (h:FOk f) (hm:wZ f dev ino nm gG ll f') (T:Int→Prop):kL dev T f f' :=by
 obtain ⟨hp,hl,hfu,rfl,_,rfl⟩:=hm;obtain ⟨p,hpn,hpk,hnm⟩:=bA hp;obtain ⟨d,hd,hpm,hpi⟩:=aG hpn;have hok:=h.2.2 d (bn hd);rw [bS hd hok.uniq hpm hpi];exact fA hd (dU T _ _ _ _) (bP hok.uniq)
theorem jZ.keep {f f' :List Dv} {dev ino t:Int} {nm:ByteArray} (h:FOk f) (hm:jZ f dev ino nm t f'):kL dev (fun j=>j=t) f f' :=by
 obtain ⟨hp,hl,he,rfl⟩:=hm;obtain ⟨p,hpn,hpk,hnm⟩:=bA hp;obtain ⟨d,hd,hpm,hpi⟩:=aG hpn;have hok:=h.2.2 d (bn hd);rw [bS hd hok.uniq hpm hpi,gD (bq hd _),List.set_set];exact fA hd ((dU _ _ _ _ _).trans (nP _ _)) (mh (bP hok.uniq))
theorem wN.keep {f f' :List Dv} {dev ino mode uid gid:Int} (h:FOk f) (hm:wN f dev ino mode uid gid f') (T:Int→Prop):kL dev T f f' :=by
 obtain ⟨k,hk,rfl⟩:=hm;cases hd:eQ f dev with
 | none=>unfold eT at hk;rw [hd] at hk;cases hk
 | some d=>
  have hk' :iK d.ns ino=some k:=by unfold eT at hk;rw [hd] at hk;exact hk
  obtain ⟨hkl,hki⟩:=iy hk';have hok:=h.2.2 d (bn hd);rw [dN hd,iO hok.uniq hkl hki];refine fA hd (j6 T d _ _ fun _=>⟨rfl,rfl⟩) ?_;rw [gQ (h:=kE mode uid gid) (fun _=>rfl)];exact hok.uniq
theorem j4.keep {f f' :List Dv} {dev i k t:Int} {nm nm2:ByteArray} (h:FOk f) (hm:j4 f dev i nm k nm2 t f'):kL dev (fun j=>bY f dev k nm2=(0,dev,j)∧j≠t) f f' :=by
 obtain ⟨hp,hp2,hl,hbe,rfl | ⟨o,ho,f1,hf1,hf'⟩⟩:=hm
 · exact kL.refl _ _ _
 obtain ⟨p,hpn,hpk,hnm⟩:=bA hp;obtain ⟨q,hqn,hqk,GG⟩:=bA hp2;obtain ⟨d,hd,hpm,hpi⟩:=aG hpn;obtain ⟨d2,hd2,hqm,hqi⟩:=aG hqn;rw [hd] at hd2;cases hd2;have hok:=h.2.2 d (bn hd);obtain ⟨q',hq',q1,_⟩:=fM (i:=i) (nm:=nm) (new:=0) hqm;have h1:iw f dev i nm 0=f.set dev.toNat (opE d i nm 0):=bS hd hok.uniq hpm hpi nm 0;have h2:iw (iw f dev i nm 0) dev k nm2 t=f.set dev.toNat (opE (opE d i nm 0) k nm2 t):=by
   rw [h1,bS (bq hd _) (bP hok.uniq) hq' (by rw [q1,hqi]),List.set_set]
 have h3:f1=f.set dev.toNat (opO (opE (opE d i nm 0) k nm2 t) o):=by
   rw [hf1];cases o with
   | none=>exact h2
   | some y=>show kH _ _ _=_;rw [h2,gD (bq hd _),List.set_set];rfl
 have hu3:((opO (opE (opE d i nm 0) k nm2 t) o).ns.map (·.ino)).Nodup:=by
   cases o with
   | none=>exact bP (bP hok.uniq)
   | some y=>exact mh (bP (bP hok.uniq))
 have hk3:kK (fun j=>bY f dev k nm2=(0,dev,j)∧j≠t) d (opO (opE (opE d i nm 0) k nm2 t) o):=by
   cases o with
   | none=>exact (dU _ _ _ _ _).trans (dU _ _ _ _ _)
   | some y=>
    refine ((dU _ _ _ _ _).trans (dU _ _ _ _ _)).trans fun n hn hkn ht=>nP _ y n hn hkn fun e=>ht ?_;rw [e];exact ⟨ho.1,ho.2.1⟩
 split at hf'
 · obtain ⟨r,hr,hf'⟩:=hf';have hd3:eQ f1 dev=some (opO (opE (opE d i nm 0) k nm2 t) o):=(by rw [h3];exact bq hd _);have hr' :iK (opO (opE (opE d i nm 0) k nm2 t) o).ns t=some r:=(by unfold eT at hr;rw [hd3] at hr;exact hr);obtain ⟨hrl,hri⟩:=iy hr';rw [hf',dN hd3,iO hu3 hrl hri,h3,List.set_set];refine fA hd (hk3.trans (j6 _ _ _ _ fun _=>⟨rfl,rfl⟩)) ?_;rw [gQ (h:=mg k) (fun _=>rfl)];exact hu3
 · rw [hf',h3];exact fA hd hk3 hu3
theorem SOk.files {f f' :List Dv} {ms:List Mt} (h:SOk f ms) (hf:FOk f') {dev:Int} {T:Int→Prop} (hk:kL dev T f f') (hT:∀ m∈ms,m.od=dev→¬ T m.oi):SOk f' ms:=
 ⟨hf,h.2.files hk.1 fun m hm=>hk.2 _ _ (h.2.Ih m hm) fun e=>hT m hm e.1 e.2⟩
inductive kM (f:List Dv) (ms:List Mt):Nat→Int→Int→List ByteArray→Prop
 | top:onF ms 0=none→bI f 0 1=true→kM f ms 1 0 1 []
 | over {h:Nat} {dev a b:Int} {L:List ByteArray} :bI f dev 1=true→dev≠0→onF ms dev=some (a,b)→kM f ms h a b L→kM f ms (h+1) dev 1 L
 | step {h:Nat} {dev ino:Int} {n:Nd} {L:List ByteArray} :aF f dev ino=some n→n.kind=2→ino≠1→eU ms dev=true→kM f ms h dev n.par L→kM f ms (h+1) dev ino (L ++ [dS f dev ino])
def tu (f:List Dv) (dev:Int):Nat:=match eQ f dev with | some d=>d.ns.length | none=>0
theorem kM.mono {f:List Dv} {ms:List Mt} {m:Mt} (hm:eU ms m.dev=false) {k:Nat} {dev ino:Int} {L:List ByteArray} (h:kM f ms k dev ino L):kM f (ms ++ [m]) k dev ino L:=by
 have h0:∀ x,eU ms x=true→onF (ms ++ [m]) x=onF ms x:=fun x hx=>by
  rw [mq];have:(m.dev == x)=false:=by
   cases hq:m.dev == x with
   | false=>rfl
   | true=>
    have e:m.dev=x:=(by simpa using hq);rw [e,hx] at hm;cases hm
  rw [this];cases onF ms x <;> rfl
 induction h with
 | top h1 h2=>exact .top (by rw [h0 0 (by unfold eU;simp)];exact h1) h2
 | over h1 hz h2 _ ih=>exact .over h1 hz (by rw [h0 _ (by unfold eU;rw [h2];rfl)];exact h2) ih
 | step h1 h2 h3 h4 _ ih=>exact .step h1 h2 h3 (by rw [iP,h4];rfl) ih
theorem qX {f:List Dv} {ms:List Mt} {dev:Int} {d:Dv} (hd:eQ f dev=some d) (hu:(d.ns.map (·.ino)).Nodup) (hm:eU ms dev=true) {h:Nat} {L0:List ByteArray} (h0:kM f ms h dev 1 L0) {k:Nat} {i:Int} (hk:eY d.ns k i):∃ L,kM f ms (h+k) dev i L∧L.length=L0.length+k:=by
 induction hk with
 | root=>exact ⟨L0,h0,rfl⟩
 | @up n k hn hk h1 _ ih=>
  obtain ⟨L,hL,hl⟩:=ih;exact ⟨_, .step (gU hd hu hn) hk h1 hm hL,by rw [List.length_append,hl];rfl⟩
theorem MOk.Dz {f:List Dv} (hf:FOk f) {ms:List Mt} (h:MOk f ms):∀ {dev ino:Int},eU ms dev=true→bI f dev ino=true→∃ L k,kM f ms k dev ino L∧L.length≤15 * (ms.length+1)∧k≤tu f 0+(ms.map (fun m=>tu f m.dev)).sum:=by
 have hgo:∀ {ms:List Mt} {dev ino:Int} {h:Nat} {L0:List ByteArray},eU ms dev=true→kM f ms (h+1) dev 1 L0→bI f dev ino=true→∃ L k,kM f ms k dev ino L∧L.length≤L0.length+15∧k≤h+tu f dev:=fun {ms dev ino h L0} hm h0 hd=>by
  obtain ⟨d,n,hdd,hn,rfl,hk,_⟩:=jQ hd;have hok:=hf.2.2 d (bn hdd);obtain ⟨k,hk'⟩:=hok.reach n hn hk;obtain ⟨L,h1,h2⟩:=qX hdd hok.uniq hm h0 hk';have h3:=pW hok.uniq hok.Dp hk';have h4:=hok.few;have h5:tu f dev=d.ns.length:=by unfold tu;rw [hdd]
  exact ⟨L,_,h1,by omega,by omega⟩
 induction h with
 | nil=>
  intro dev ino hm hd;have:dev=0:=by
   have:(dev == 0)=true:=hm;simpa using this
  subst this;obtain ⟨d,_,hdd,_⟩:=jQ hd;obtain ⟨L,k,h1,h2,h3⟩:=hgo (h:=0) (L0:= []) hm (.top rfl (hf.root hdd)) hd;exact ⟨L,k,h1,by simpa using h2,by simpa using h3⟩
 | @app ms m hms h1 h2 h3 h4 h5 ih=>
  intro dev ino hm hd;rw [List.length_append,List.length_singleton,List.map_append,List.sum_append];cases ho:eU ms dev with
  | true=>
   obtain ⟨L,k,h6,h7,h8⟩:=ih ho hd;exact ⟨L,k,h6.mono h3,by omega,by omega⟩
  | false=>
   have e:m.dev=dev:=by
    rw [iP,ho,Bool.false_or] at hm;simpa using hm
   obtain ⟨L,k,h6,h7,h8⟩:=ih h4 h5;obtain ⟨d,_,hdd,_⟩:=jQ hd;have hon:onF (ms ++ [m]) dev=some (m.od,m.oi):=by
    rw [mq,e];have:onF ms dev=none:=by
     unfold eU at ho;rw [Bool.or_eq_false_iff] at ho;exact Option.isNone_iff_eq_none.1 (Option.isSome_eq_false_iff.1 ho.1)
    rw [this];simp
   obtain ⟨L2,k2,h9,h10,h11⟩:=hgo (ino:=ino) hm (.over (hf.root hdd) (by omega) hon (h6.mono h3)) hd;refine ⟨L2,k2,h9,by omega,?_⟩;have e2:(List.map (fun m=>tu f m.dev) [m]).sum=tu f dev:=(by simp [e]);omega
theorem tC {g:Int→Nat} :∀ {L M:List Int},L.Nodup→(∀ x∈L,x∈M)→(L.map g).sum≤(M.map g).sum
 | [],_,_,_=>Nat.zero_le _
 | a :: L,M,h,hs=>by
  rw [List.nodup_cons] at h;have ha:=hs a (List.mem_cons_self ..);have h2:∀ x∈L,x∈M.erase a:=fun x hx=>(List.mem_erase_of_ne (fun e=>h.1 (by rw [← e];exact hx))).2 (hs x (List.mem_cons_of_mem _ hx));have h3:=tC (g:=g) h.2 h2;have h4:(M.map g).sum=g a+((M.erase a).map g).sum:=by
   have hp:=(List.perm_cons_erase ha).map g;have:=hp.sum_nat;rw [this,List.map_cons,List.sum_cons]
  rw [List.map_cons,List.sum_cons,h4];omega
def wO (f:List Dv):Nat:=(f.map (fun d=>d.ns.length)).sum
theorem Ay (f:List Dv):wO f=(((List.range f.length).map Int.ofNat).map (tu f)).sum:=by
 unfold wO;rw [List.map_map];congr 1;apply List.ext_getElem
 · simp
 · intro i h1 h2;simp only [List.length_map,List.length_range] at h1 h2;rw [List.getElem_map,List.getElem_map,List.getElem_range];show _=tu f (Int.ofNat i);unfold tu eQ;rw [if_neg (by simp)];have:(Int.ofNat i).toNat=i:=rfl;rw [this,List.getElem?_eq_getElem h1]
theorem SOk.Dz {f:List Dv} {ms:List Mt} (h:SOk f ms) {dev ino:Int} (hm:eU ms dev=true) (hd:bI f dev ino=true):∃ L k,kM f ms k dev ino L∧L.length≤45∧k≤wO f:=by
 obtain ⟨L,k,h1,h2,h3⟩:=h.2.Dz h.1 hm hd;have h4:=h.2.few h.1.2.1;obtain ⟨h5,h6⟩:=h.2.len;refine ⟨L,k,h1,by omega,Nat.le_trans h3 ?_⟩;rw [Ay];have:=tC (g:=tu f) (L:=0 :: ms.map (·.dev)) (M:=(List.range f.length).map Int.ofNat) (List.nodup_cons.2 ⟨fun hm0=>by
  obtain ⟨m,hmm,e⟩:=List.mem_map.1 hm0;have:=(h6 m hmm).1;omega,h5⟩) (fun x hx=>by
  rcases List.mem_cons.1 hx with rfl | hx
  · exact List.mem_map.2 ⟨0,List.mem_range.2 h.1.1,rfl⟩
  · obtain ⟨m,hmm,e⟩:=List.mem_map.1 hx;have:=h6 m hmm;exact List.mem_map.2 ⟨x.toNat,List.mem_range.2 (by omega),by show ((x.toNat:Nat):Int)=x;omega⟩)
 rw [List.map_cons,List.sum_cons,List.map_map] at this;exact this
def eB (d n:ByteArray):ByteArray:=if (decide (0 < d.size) && (d.data.toList.getLast? == some 47))=true then d ++ n else d ++ ⟨#[47]⟩ ++ n
theorem lu (d n:ByteArray):(eB d n).size≤d.size+1+n.size:=by
 unfold eB;split
 · rw [ByteArray.size_append];omega
 · rw [ByteArray.size_append,ByteArray.size_append];have:(⟨#[47]⟩:ByteArray).size=1:=rfl;omega
def iA (L:List ByteArray):ByteArray:=L.foldl eB ⟨#[47]⟩
theorem lv (L:List ByteArray) (x:ByteArray):iA (L ++ [x])=eB (iA L) x:=by
 unfold iA;rw [List.foldl_append];rfl
theorem dV:∀ (L:List ByteArray) (d:ByteArray),(∀ x∈L,x.size≤12)→(L.foldl eB d).size≤d.size+13 * L.length
 | [],d,_=>by simp
 | a :: L,d,h=>by
  have h1:=dV L (eB d a) (fun x hx=>h x (List.mem_cons_of_mem _ hx));have h2:=lu d a;have h3:=h a (List.mem_cons_self ..);rw [List.foldl_cons,List.length_cons];omega
theorem jm {L:List ByteArray} (h:∀ x∈L,x.size≤12) (hl:L.length≤45):(iA L).size≤586:=by
 have:=dV L ⟨#[47]⟩ h;have e:(⟨#[47]⟩:ByteArray).size=1:=rfl;unfold iA;omega
theorem kM.names {f:List Dv} (hf:FOk f) {ms:List Mt} {k:Nat} {dev ino:Int} {L:List ByteArray} (h:kM f ms k dev ino L):∀ x∈L,x.size≤12:=by
 induction h with
 | top=>intro x hx;cases hx
 | over _ _ _ _ ih=>exact ih
 | step _ _ _ _ _ ih=>
  intro x hx;rcases List.mem_append.1 hx with hx | hx
  · exact ih x hx
  · rw [List.mem_singleton.1 hx];exact jl hf _ _
end Go.Proofs.YtollifnnpihfdaaGreatDoor
