import Derived.Test.YtollifnnpihfdaaGreatDoorT08
set_option maxRecDepth 100000
set_option maxHeartbeats 64000000
set_option linter.all false
namespace Go.Proofs.YtollifnnpihfdaaGreatDoor
open Go.RowKit
theorem FOk.new {n:Nat} (h1:1≤n) (h3:n≤3):FOk (List.replicate n ⟨2, [⟨1,2,493,0,0,1,⟨#[]⟩, []⟩]⟩):=by
 refine ⟨by simpa using h1,by simpa using h3,fun d hd=>?_⟩;rw [(List.mem_replicate.1 hd).2];have hm:∀ {n:Nd},n∈ [(⟨1,2,493,0,0,1,⟨#[]⟩, []⟩:Nd)]→n=⟨1,2,493,0,0,1,⟨#[]⟩, []⟩:=fun h=>List.mem_singleton.1 h;refine ⟨by decide,by decide,by decide,⟨_,_,rfl,rfl,rfl⟩,by decide,?_,?_,?_,?_,?_,?_⟩
 · intro n hn;rw [hm hn];decide
 · intro n hn;rw [hm hn];decide
 · intro n hn;rw [hm hn];exact ⟨by decide,by decide,fun e he=>by cases he⟩
 · intro n hn _ p hp e he;rw [hm hp] at he;cases he
 · intro n hn _ h1;rw [hm hn] at h1;exact absurd rfl h1
 · intro n hn _;rw [hm hn];exact ⟨0, .root⟩
structure Mt where
 dev:Int
 od:Int
 oi:Int
def onF (ms:List Mt) (dev:Int):Option (Int×Int):=(ms.find? (fun m=>m.dev == dev)).map (fun m=>(m.od,m.oi))
def fe (ms:List Mt) (dev:Int):Bool:=(onF ms dev).isSome || dev == 0
def xD (ms:List Mt) (d i:Int):Option Int:=(ms.find? (fun m=>m.od == d && m.oi == i)).map (·.dev)
inductive MOk (f:List Dv):List Mt→Prop
 | nil:MOk f []
 | app {ms:List Mt} {m:Mt} :MOk f ms→1≤m.dev→m.dev < f.length→fe ms m.dev=false→fe ms m.od=true→bJ f m.od m.oi=true→MOk f (ms ++ [m])
theorem mF (ms:List Mt) (m:Mt) (dev:Int):onF (ms ++ [m]) dev=(onF ms dev).or (if m.dev == dev then some (m.od,m.oi) else none):=by
 unfold onF;rw [List.find?_append];cases ms.find? (fun m=>m.dev == dev) with
 | some x=>rfl
 | none=>
  rw [Option.none_or,Option.map_none,Option.none_or,List.find?_cons];cases m.dev == dev <;> rfl
theorem MOk.zero {f:List Dv} {ms:List Mt} (h:MOk f ms):onF ms 0=none:=by
 induction h with
 | nil=>rfl
 | @app ms m _ h1 _ _ _ _ ih=>
  rw [mF,ih];have:(m.dev == 0)=false:=by simp;omega
  rw [this];rfl
theorem MOk.len {f:List Dv} {ms:List Mt} (h:MOk f ms):(ms.map (·.dev)).Nodup∧∀ m∈ms,1≤m.dev∧m.dev < f.length:=by
 induction h with
 | nil=>exact ⟨by simp,fun _ h=>by cases h⟩
 | @app ms m _ h1 h2 h3 _ _ ih=>
  refine ⟨?_,fun x hx=>?_⟩
  · rw [List.map_append,List.nodup_append];refine ⟨ih.1,by simp,fun a ha b hb=>?_⟩;have hb:b=m.dev:=(by simpa using hb);obtain ⟨x,hx,e⟩:=List.mem_map.1 ha;intro e2;unfold fe onF at h3;rw [Bool.or_eq_false_iff] at h3;have h4:=h3.1;rw [Option.isSome_map] at h4;have:=List.find?_eq_none.1 (Option.isSome_eq_false_iff.1 h4 |> Option.isNone_iff_eq_none.1) x hx;rw [show x.dev=a from e,e2,hb] at this;simp at this
  · rcases List.mem_append.1 hx with hx | hx
    · exact ih.2 x hx
    · rw [List.mem_singleton.1 hx];exact ⟨h1,h2⟩
theorem MOk.few {f:List Dv} {ms:List Mt} (h:MOk f ms) (hf:f.length≤3):ms.length≤2:=by
 obtain ⟨h1,h2⟩:=h.len;have:=jl h1 (M:= [1,2]) (fun x hx=>by
  obtain ⟨m,hm,e⟩:=List.mem_map.1 hx;have:=h2 m hm;rw [show m.dev=x from e] at this;have:x=1∨x=2:=by omega
  simpa using this)
 simpa using this
theorem MOk.Im {f:List Dv} {ms:List Mt} (h:MOk f ms):∀ m∈ms,bJ f m.od m.oi=true:=by
 induction h with
 | nil=>intro m hm;cases hm
 | app _ _ _ _ _ h5 ih=>
  intro x hx;rcases List.mem_append.1 hx with hx | hx
  · exact ih x hx
  · rw [List.mem_singleton.1 hx];exact h5
theorem MOk.files {f f' :List Dv} {ms:List Mt} (h:MOk f ms) (hl:f'.length=f.length) (hd:∀ m∈ms,bJ f' m.od m.oi=true):MOk f' ms:=by
 induction h with
 | nil=>exact .nil
 | app _ h1 h2 h3 h4 _ ih=>
  exact .app (ih fun m hm=>hd m (List.mem_append_left _ hm)) h1 (by rw [hl];exact h2) h3 h4 (hd _ (List.mem_append_right _ (List.mem_singleton.2 rfl)))
theorem iU (ms:List Mt) (m:Mt) (dev:Int):fe (ms ++ [m]) dev=(fe ms dev || m.dev == dev):=by
 unfold fe;rw [mF];cases onF ms dev <;> cases m.dev == dev <;> cases dev == 0 <;> rfl
theorem MOk.remove {f:List Dv} {ms:List Mt} {dev:Int} (h:MOk f ms) (hno:∀ m∈ms,m.od≠dev):MOk f (ms.filter (fun m=> !(m.dev == dev)))∧∀ x,x≠dev→fe (ms.filter (fun m=> !(m.dev == dev))) x=fe ms x:=by
 induction h with
 | nil=>exact ⟨.nil,fun _ _=>rfl⟩
 | @app ms m _ h1 h2 h3 h4 h5 ih=>
  obtain ⟨i1,i2⟩:=ih fun m hm=>hno m (List.mem_append_left _ hm);have hod:m.od≠dev:=hno m (List.mem_append_right _ (List.mem_singleton.2 rfl));rw [List.filter_append];cases hm:m.dev == dev with
  | true=>
   have e: [m].filter (fun m=> !(m.dev == dev))= []:=(by simp [hm]);rw [e,List.append_nil];refine ⟨i1,fun x hx=>?_⟩;rw [i2 x hx,iU];have:(m.dev == x)=false:=by
    have h9:m.dev=dev:=(by simpa using hm);rw [h9];simpa using fun e=>hx e.symm
   rw [this,Bool.or_false]
  | false=>
   have e: [m].filter (fun m=> !(m.dev == dev))= [m]:=(by simp [hm]);have hmd:m.dev≠dev:=(by simpa using hm);rw [e];refine ⟨.app i1 h1 h2 (by rw [i2 _ hmd];exact h3) (by rw [i2 _ hod];exact h4) h5,fun x hx=>?_⟩;rw [iU,iU,i2 x hx]
def dX (f:List Dv) (dev ino:Int):ByteArray:=
 match (match aF f dev (upF f dev ino) with | some p=>p.es.find? (fun e:En=>e.ino == ino) | none=>none) with
 | some e=>e.nm
 | none=>⟨#[]⟩
theorem FOk.root {f:List Dv} (h:FOk f) {dev:Int} {d:Dv} (hd:eY f dev=some d):bJ f dev 1=true:=by
 have hok:=h.2.2 d (bq hd);obtain ⟨n,r,e,e1,e2⟩:=hok.root;have hn:n∈d.ns:=by rw [e];exact List.mem_cons_self ..
 have:=gW hd hok.uniq hn;rw [e1] at this;unfold bJ;rw [this];simpa using e2
theorem jX {f:List Dv} {dev i:Int} (h:bJ f dev i=true):∃ d n,eY f dev=some d∧n∈d.ns∧n.ino=i∧n.kind=2∧aF f dev i=some n:=by
 obtain ⟨n,hn,hk⟩:=jW h;obtain ⟨d,hd,hm,hi⟩:=aH hn;exact ⟨d,n,hd,hm,hi,hk,hn⟩
def SOk (f:List Dv) (ms:List Mt):Prop:=FOk f∧MOk f ms
theorem jv {f:List Dv} (h:FOk f) (dev ino:Int):(dX f dev ino).size≤12:=by
 unfold dX;split
 · rename_i e he;split at he
   · rename_i p hp;obtain ⟨d,hd,hm,_⟩:=aH hp;have hok:=h.2.2 d (bq hd);have:=((hok.bX p hm).2.2 e (List.mem_of_find?_eq_some he)).2.2;unfold dN at this;simp only [Bool.and_eq_true,decide_eq_true_eq] at this;exact this.1.1.1.2
   · cases he
 · decide
def kT (T:Int→Prop) (d d' :Dv):Prop:=∀ n∈d.ns,n.kind=2→¬ T n.ino→∃ m∈d'.ns,m.ino=n.ino∧m.kind=2
theorem kT.trans {T:Int→Prop} {a b c:Dv} (h:kT T a b) (k:kT T b c):kT T a c:=fun n hn hk ht=>by
 obtain ⟨m,hm,e1,e2⟩:=h n hn hk ht;obtain ⟨r,hr,e3,e4⟩:=k m hm e2 (by rw [e1];exact ht);exact ⟨r,hr,e3.trans e1,e4⟩
theorem kC (T:Int→Prop) (d:Dv) (i:Int) (g:Nd→Nd) (hg:∀ n,(g n).ino=n.ino∧(g n).kind=n.kind):kT T d { d with ns:=dJ d.ns i g } :=fun n hn hk _=>by
 refine ⟨_,df.2 ⟨n,hn,rfl⟩,?_⟩;split
 · exact ⟨(hg n).1,by rw [(hg n).2];exact hk⟩
 · exact ⟨rfl,hk⟩
theorem dY (T:Int→Prop) (d:Dv) (i:Int) (nm:ByteArray) (new:Int):kT T d (opE d i nm new):=kC T d i _ fun _=>⟨rfl,rfl⟩
theorem nT (d:Dv) (t:Int):kT (fun j=>j=t) d (opD d t):=fun n hn hk ht=>by
 unfold opD;split
 · exact ⟨n,hn,rfl,hk⟩
 · exact ⟨n,List.mem_filter.2 ⟨hn,by simpa using ht⟩,rfl,hk⟩
theorem rC (T:Int→Prop) (d:Dv) (x:Nd) (nx:Int):kT T d ⟨nx,d.ns ++ [x]⟩:=fun n hn hk _=>⟨n,List.mem_append_left _ hn,rfl,hk⟩
def kU (dev:Int) (T:Int→Prop) (f f' :List Dv):Prop:=f'.length=f.length∧∀ a b,bJ f a b=true→¬ (a=dev∧T b)→bJ f' a b=true
theorem kU.refl (dev:Int) (T:Int→Prop) (f:List Dv):kU dev T f f:=⟨rfl,fun _ _ h _=>h⟩
theorem fF {T:Int→Prop} {f:List Dv} {dev:Int} {d d' :Dv} (hd:eY f dev=some d) (hk:kT T d d') (hu:(d'.ns.map (·.ino)).Nodup):kU dev T f (f.set dev.toNat d'):=by
 refine ⟨by rw [List.length_set],fun a b h hne=>?_⟩;obtain ⟨e,n,hde,hn,hi,hkn,_⟩:=jX h;by_cases ha:a=dev
 · subst ha;rw [hd] at hde;cases hde;obtain ⟨m,hm,e1,e2⟩:=hk n hn hkn (fun ht=>hne ⟨rfl,by rw [← hi];exact ht⟩);have:=gW (bz hd d') hu hm;rw [e1,hi] at this;unfold bJ;rw [this];simpa using e2
 · have e1:eY (f.set dev.toNat d') a=eY f a:=by
    have h0:=(jo hd).1;have h1:=(jo hde).1;unfold eY;rw [if_neg (by omega),if_neg (by omega),List.getElem?_set];rw [if_neg (by omega)]
   have e2:aF (f.set dev.toNat d') a b=aF f a b:=(by unfold aF;rw [e1]);unfold bJ at h ⊢;rw [e2];exact h
theorem xA.keep {f f' :List Dv} {dev ino:Int} {nm:ByteArray} {n:Nd} (h:FOk f) (hm:xA f dev ino nm n f') (T:Int→Prop):kU dev T f f' :=by
 have h9:=h.make hm;obtain ⟨hp,htg,hl,hfu,d,hd,hlen,hnx,rfl⟩:=hm;obtain ⟨p,hpn,hpk,hnm⟩:=bC hp;obtain ⟨d2,hd2,hpm,hpi⟩:=aH hpn;rw [hd] at hd2;cases hd2;have hok:=h.2.2 d (bq hd);have hu:((d.ns ++ [gY d n ino]).map (·.ino)).Nodup:=by
  rw [List.map_append,List.nodup_append];refine ⟨hok.uniq,by simp,fun a ha b hb=>?_⟩;obtain ⟨m,hm,e1⟩:=List.mem_map.1 ha;have hb:b=d.nx:=by simpa [gY] using hb
  have:=(hok.rng m hm).2;rw [hb, ← e1];show m.ino≠d.nx;omega
 rw [dO hd,bT (bz hd _) hu (List.mem_append_left _ hpm) hpi,List.set_set];exact fF hd ((rC T d _ _).trans (dY T _ _ _ _)) (bQ hu)
theorem xB.keep {f f' :List Dv} {dev ino gK lG:Int} {nm:ByteArray} (h:FOk f) (hm:xB f dev ino nm gK lG f') (T:Int→Prop):kU dev T f f' :=by
 obtain ⟨hp,hl,hfu,rfl,_,rfl⟩:=hm;obtain ⟨p,hpn,hpk,hnm⟩:=bC hp;obtain ⟨d,hd,hpm,hpi⟩:=aH hpn;have hok:=h.2.2 d (bq hd);rw [bT hd hok.uniq hpm hpi];exact fF hd (dY T _ _ _ _) (bQ hok.uniq)
theorem ky.keep {f f' :List Dv} {dev ino t:Int} {nm:ByteArray} (h:FOk f) (hm:ky f dev ino nm t f'):kU dev (fun j=>j=t) f f' :=by
 obtain ⟨hp,hl,he,rfl⟩:=hm;obtain ⟨p,hpn,hpk,hnm⟩:=bC hp;obtain ⟨d,hd,hpm,hpi⟩:=aH hpn;have hok:=h.2.2 d (bq hd);rw [bT hd hok.uniq hpm hpi,gJ (bz hd _),List.set_set];exact fF hd ((dY _ _ _ _ _).trans (nT _ _)) (mD (bQ hok.uniq))
theorem wZ.keep {f f' :List Dv} {dev ino mode uid gid:Int} (h:FOk f) (hm:wZ f dev ino mode uid gid f') (T:Int→Prop):kU dev T f f' :=by
 obtain ⟨k,hk,rfl⟩:=hm;cases hd:eY f dev with
 | none=>unfold eZ at hk;rw [hd] at hk;cases hk
 | some d=>
  have hk' :iO d.ns ino=some k:=by unfold eZ at hk;rw [hd] at hk;exact hk
  obtain ⟨hkl,hki⟩:=iC hk';have hok:=h.2.2 d (bq hd);rw [dO hd,iT hok.uniq hkl hki];refine fF hd (kC T d _ _ fun _=>⟨rfl,rfl⟩) ?_;rw [gU (h:=kM mode uid gid) (fun _=>rfl)];exact hok.uniq
theorem kz.keep {f f' :List Dv} {dev i k t:Int} {nm nm2:ByteArray} (h:FOk f) (hm:kz f dev i nm k nm2 t f'):kU dev (fun j=>cu f dev k nm2=(0,dev,j)∧j≠t) f f' :=by
 obtain ⟨hp,hp2,hl,hbe,rfl | ⟨o,ho,f1,hf1,hf'⟩⟩:=hm
 · exact kU.refl _ _ _
 obtain ⟨p,hpn,hpk,hnm⟩:=bC hp;obtain ⟨q,hqn,hqk,GL⟩:=bC hp2;obtain ⟨d,hd,hpm,hpi⟩:=aH hpn;obtain ⟨d2,hd2,hqm,hqi⟩:=aH hqn;rw [hd] at hd2;cases hd2;have hok:=h.2.2 d (bq hd);obtain ⟨q',hq',q1,_⟩:=fT (i:=i) (nm:=nm) (new:=0) hqm;have h1:iB f dev i nm 0=f.set dev.toNat (opE d i nm 0):=bT hd hok.uniq hpm hpi nm 0;have h2:iB (iB f dev i nm 0) dev k nm2 t=f.set dev.toNat (opE (opE d i nm 0) k nm2 t):=by
   rw [h1,bT (bz hd _) (bQ hok.uniq) hq' (by rw [q1,hqi]),List.set_set]
 have h3:f1=f.set dev.toNat (opO (opE (opE d i nm 0) k nm2 t) o):=by
   rw [hf1];cases o with
   | none=>exact h2
   | some y=>show kQ _ _ _=_;rw [h2,gJ (bz hd _),List.set_set];rfl
 have hu3:((opO (opE (opE d i nm 0) k nm2 t) o).ns.map (·.ino)).Nodup:=by
   cases o with
   | none=>exact bQ (bQ hok.uniq)
   | some y=>exact mD (bQ (bQ hok.uniq))
 have hk3:kT (fun j=>cu f dev k nm2=(0,dev,j)∧j≠t) d (opO (opE (opE d i nm 0) k nm2 t) o):=by
   cases o with
   | none=>exact (dY _ _ _ _ _).trans (dY _ _ _ _ _)
   | some y=>
    refine ((dY _ _ _ _ _).trans (dY _ _ _ _ _)).trans fun n hn hkn ht=>nT _ y n hn hkn fun e=>ht ?_;rw [e];exact ⟨ho.1,ho.2.1⟩
 split at hf'
 · obtain ⟨r,hr,hf'⟩:=hf';have hd3:eY f1 dev=some (opO (opE (opE d i nm 0) k nm2 t) o):=(by rw [h3];exact bz hd _);have hr' :iO (opO (opE (opE d i nm 0) k nm2 t) o).ns t=some r:=(by unfold eZ at hr;rw [hd3] at hr;exact hr);obtain ⟨hrl,hri⟩:=iC hr';rw [hf',dO hd3,iT hu3 hrl hri,h3,List.set_set];refine fF hd (hk3.trans (kC _ _ _ _ fun _=>⟨rfl,rfl⟩)) ?_;rw [gU (h:=mr k) (fun _=>rfl)];exact hu3
 · rw [hf',h3];exact fF hd hk3 hu3
theorem SOk.files {f f' :List Dv} {ms:List Mt} (h:SOk f ms) (hf:FOk f') {dev:Int} {T:Int→Prop} (hk:kU dev T f f') (hT:∀ m∈ms,m.od=dev→¬ T m.oi):SOk f' ms:=
 ⟨hf,h.2.files hk.1 fun m hm=>hk.2 _ _ (h.2.Im m hm) fun e=>hT m hm e.1 e.2⟩
inductive kV (f:List Dv) (ms:List Mt):Nat→Int→Int→List ByteArray→Prop
 | top:onF ms 0=none→bJ f 0 1=true→kV f ms 1 0 1 []
 | over {h:Nat} {dev a b:Int} {L:List ByteArray} :bJ f dev 1=true→dev≠0→onF ms dev=some (a,b)→kV f ms h a b L→kV f ms (h+1) dev 1 L
 | step {h:Nat} {dev ino:Int} {n:Nd} {L:List ByteArray} :aF f dev ino=some n→n.kind=2→ino≠1→fe ms dev=true→kV f ms h dev n.par L→kV f ms (h+1) dev ino (L ++ [dX f dev ino])
def tT (f:List Dv) (dev:Int):Nat:=match eY f dev with | some d=>d.ns.length | none=>0
theorem kV.mono {f:List Dv} {ms:List Mt} {m:Mt} (hm:fe ms m.dev=false) {k:Nat} {dev ino:Int} {L:List ByteArray} (h:kV f ms k dev ino L):kV f (ms ++ [m]) k dev ino L:=by
 have h0:∀ x,fe ms x=true→onF (ms ++ [m]) x=onF ms x:=fun x hx=>by
  rw [mF];have:(m.dev == x)=false:=by
   cases hq:m.dev == x with
   | false=>rfl
   | true=>
    have e:m.dev=x:=(by simpa using hq);rw [e,hx] at hm;cases hm
  rw [this];cases onF ms x <;> rfl
 induction h with
 | top h1 h2=>exact .top (by rw [h0 0 (by unfold fe;simp)];exact h1) h2
 | over h1 hz h2 _ ih=>exact .over h1 hz (by rw [h0 _ (by unfold fe;rw [h2];rfl)];exact h2) ih
 | step h1 h2 h3 h4 _ ih=>exact .step h1 h2 h3 (by rw [iU,h4];rfl) ih
theorem rD {f:List Dv} {ms:List Mt} {dev:Int} {d:Dv} (hd:eY f dev=some d) (hu:(d.ns.map (·.ino)).Nodup) (hm:fe ms dev=true) {h:Nat} {L0:List ByteArray} (h0:kV f ms h dev 1 L0) {k:Nat} {i:Int} (hk:fu d.ns k i):∃ L,kV f ms (h+k) dev i L∧L.length=L0.length+k:=by
 induction hk with
 | root=>exact ⟨L0,h0,rfl⟩
 | @up n k hn hk h1 _ ih=>
  obtain ⟨L,hL,hl⟩:=ih;exact ⟨_, .step (gW hd hu hn) hk h1 hm hL,by rw [List.length_append,hl];rfl⟩
theorem MOk.DT {f:List Dv} (hf:FOk f) {ms:List Mt} (h:MOk f ms):∀ {dev ino:Int},fe ms dev=true→bJ f dev ino=true→∃ L k,kV f ms k dev ino L∧L.length≤15 * (ms.length+1)∧k≤tT f 0+(ms.map (fun m=>tT f m.dev)).sum:=by
 have hgo:∀ {ms:List Mt} {dev ino:Int} {h:Nat} {L0:List ByteArray},fe ms dev=true→kV f ms (h+1) dev 1 L0→bJ f dev ino=true→∃ L k,kV f ms k dev ino L∧L.length≤L0.length+15∧k≤h+tT f dev:=fun {ms dev ino h L0} hm h0 hd=>by
  obtain ⟨d,n,hdd,hn,rfl,hk,_⟩:=jX hd;have hok:=hf.2.2 d (bq hdd);obtain ⟨k,hk'⟩:=hok.reach n hn hk;obtain ⟨L,h1,h2⟩:=rD hdd hok.uniq hm h0 hk';have h3:=qi hok.uniq hok.Dz hk';have h4:=hok.few;have h5:tT f dev=d.ns.length:=by unfold tT;rw [hdd]
  exact ⟨L,_,h1,by omega,by omega⟩
 induction h with
 | nil=>
  intro dev ino hm hd;have:dev=0:=by
   have:(dev == 0)=true:=hm;simpa using this
  subst this;obtain ⟨d,_,hdd,_⟩:=jX hd;obtain ⟨L,k,h1,h2,h3⟩:=hgo (h:=0) (L0:= []) hm (.top rfl (hf.root hdd)) hd;exact ⟨L,k,h1,by simpa using h2,by simpa using h3⟩
 | @app ms m hms h1 h2 h3 h4 h5 ih=>
  intro dev ino hm hd;rw [List.length_append,List.length_singleton,List.map_append,List.sum_append];cases ho:fe ms dev with
  | true=>
   obtain ⟨L,k,h6,h7,h8⟩:=ih ho hd;exact ⟨L,k,h6.mono h3,by omega,by omega⟩
  | false=>
   have e:m.dev=dev:=by
    rw [iU,ho,Bool.false_or] at hm;simpa using hm
   obtain ⟨L,k,h6,h7,h8⟩:=ih h4 h5;obtain ⟨d,_,hdd,_⟩:=jX hd;have hon:onF (ms ++ [m]) dev=some (m.od,m.oi):=by
    rw [mF,e];have:onF ms dev=none:=by
     unfold fe at ho;rw [Bool.or_eq_false_iff] at ho;exact Option.isNone_iff_eq_none.1 (Option.isSome_eq_false_iff.1 ho.1)
    rw [this];simp
   obtain ⟨L2,k2,h9,h10,h11⟩:=hgo (ino:=ino) hm (.over (hf.root hdd) (by omega) hon (h6.mono h3)) hd;refine ⟨L2,k2,h9,by omega,?_⟩;have e2:(List.map (fun m=>tT f m.dev) [m]).sum=tT f dev:=(by simp [e]);omega
theorem tV {g:Int→Nat} :∀ {L M:List Int},L.Nodup→(∀ x∈L,x∈M)→(L.map g).sum≤(M.map g).sum
 | [],_,_,_=>Nat.zero_le _
 | a :: L,M,h,hs=>by
  rw [List.nodup_cons] at h;have ha:=hs a (List.mem_cons_self ..);have h2:∀ x∈L,x∈M.erase a:=fun x hx=>(List.mem_erase_of_ne (fun e=>h.1 (by rw [← e];exact hx))).2 (hs x (List.mem_cons_of_mem _ hx));have h3:=tV (g:=g) h.2 h2;have h4:(M.map g).sum=g a+((M.erase a).map g).sum:=by
   have hp:=(List.perm_cons_erase ha).map g;have:=hp.sum_nat;rw [this,List.map_cons,List.sum_cons]
  rw [List.map_cons,List.sum_cons,h4];omega
def xg (f:List Dv):Nat:=(f.map (fun d=>d.ns.length)).sum
theorem AU (f:List Dv):xg f=(((List.range f.length).map Int.ofNat).map (tT f)).sum:=by
 unfold xg;rw [List.map_map];congr 1;apply List.ext_getElem
 · simp
 · intro i h1 h2;simp only [List.length_map,List.length_range] at h1 h2;rw [List.getElem_map,List.getElem_map,List.getElem_range];show _=tT f (Int.ofNat i);unfold tT eY;rw [if_neg (by simp)];have:(Int.ofNat i).toNat=i:=rfl;rw [this,List.getElem?_eq_getElem h1]
theorem SOk.DT {f:List Dv} {ms:List Mt} (h:SOk f ms) {dev ino:Int} (hm:fe ms dev=true) (hd:bJ f dev ino=true):∃ L k,kV f ms k dev ino L∧L.length≤45∧k≤xg f:=by
 obtain ⟨L,k,h1,h2,h3⟩:=h.2.DT h.1 hm hd;have h4:=h.2.few h.1.2.1;obtain ⟨h5,h6⟩:=h.2.len;refine ⟨L,k,h1,by omega,Nat.le_trans h3 ?_⟩;rw [AU];have:=tV (g:=tT f) (L:=0 :: ms.map (·.dev)) (M:=(List.range f.length).map Int.ofNat) (List.nodup_cons.2 ⟨fun hm0=>by
  obtain ⟨m,hmm,e⟩:=List.mem_map.1 hm0;have:=(h6 m hmm).1;omega,h5⟩) (fun x hx=>by
  rcases List.mem_cons.1 hx with rfl | hx
  · exact List.mem_map.2 ⟨0,List.mem_range.2 h.1.1,rfl⟩
  · obtain ⟨m,hmm,e⟩:=List.mem_map.1 hx;have:=h6 m hmm;exact List.mem_map.2 ⟨x.toNat,List.mem_range.2 (by omega),by show ((x.toNat:Nat):Int)=x;omega⟩)
 rw [List.map_cons,List.sum_cons,List.map_map] at this;exact this
def eO (d n:ByteArray):ByteArray:=if (decide (0 < d.size) && (d.data.toList.getLast? == some 47))=true then d ++ n else d ++ ⟨#[47]⟩ ++ n
theorem lI (d n:ByteArray):(eO d n).size≤d.size+1+n.size:=by
 unfold eO;split
 · rw [ByteArray.size_append];omega
 · rw [ByteArray.size_append,ByteArray.size_append];have:(⟨#[47]⟩:ByteArray).size=1:=rfl;omega
def iD (L:List ByteArray):ByteArray:=L.foldl eO ⟨#[47]⟩
theorem lJ (L:List ByteArray) (x:ByteArray):iD (L ++ [x])=eO (iD L) x:=by
 unfold iD;rw [List.foldl_append];rfl
theorem dZ:∀ (L:List ByteArray) (d:ByteArray),(∀ x∈L,x.size≤12)→(L.foldl eO d).size≤d.size+13 * L.length
 | [],d,_=>by simp
 | a :: L,d,h=>by
  have h1:=dZ L (eO d a) (fun x hx=>h x (List.mem_cons_of_mem _ hx));have h2:=lI d a;have h3:=h a (List.mem_cons_self ..);rw [List.foldl_cons,List.length_cons];omega
theorem jw {L:List ByteArray} (h:∀ x∈L,x.size≤12) (hl:L.length≤45):(iD L).size≤586:=by
 have:=dZ L ⟨#[47]⟩ h;have e:(⟨#[47]⟩:ByteArray).size=1:=rfl;unfold iD;omega
theorem kV.names {f:List Dv} (hf:FOk f) {ms:List Mt} {k:Nat} {dev ino:Int} {L:List ByteArray} (h:kV f ms k dev ino L):∀ x∈L,x.size≤12:=by
 induction h with
 | top=>intro x hx;cases hx
 | over _ _ _ _ ih=>exact ih
 | step _ _ _ _ _ ih=>
  intro x hx;rcases List.mem_append.1 hx with hx | hx
  · exact ih x hx
  · rw [List.mem_singleton.1 hx];exact jv hf _ _
end Go.Proofs.YtollifnnpihfdaaGreatDoor
