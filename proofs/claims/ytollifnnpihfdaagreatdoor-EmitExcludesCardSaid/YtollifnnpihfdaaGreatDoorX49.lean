import Derived.Test.YtollifnnpihfdaaGreatDoorX44
import Derived.Test.YtollifnnpihfdaaGreatDoorX48
set_option maxRecDepth 100000
set_option maxHeartbeats 64000000
set_option linter.all false
namespace Go.Proofs.YtollifnnpihfdaaGreatDoor
open Go.RowKit
def mkE (d:ExD) (ti:Int):Mk:=⟨none,0,0, .slice none 0 0,exX d.a d.ex d.p,exR d.z d.p d.o ⟨d.P,d.ps.length,d.cp⟩ ⟨d.G,d.gs.length,d.cg⟩,d.I,d.nI,d.cI,ti, [],d.is⟩
def evE (d:ExD) (ti:Int) (key cwd:ByteArray):List Rc:=(xG (mkE d ti) key d.gs cwd).map (fun x=>⟨x.1,ti,0,x.2⟩) ++ [⟨1320,ti,0, []⟩]
theorem Dr (d:ExD) (ti:Int) (key cwd:ByteArray) (h:d.is.length≤2):(evE d ti key cwd).length≤1000:=by
 unfold evE xG;simp only [List.length_append,List.length_map,List.length_mapIdx];have h2:(mkE d ti).is.length≤2:=h;split <;> split <;> split <;> simp only [List.length_cons,List.length_nil] <;> omega
theorem Dt {α β γ:Type} (f:β→γ) (h:Nat→α→β) (l:List α):(l.mapIdx h).map f=l.mapIdx (fun i a=>f (h i a)):=by
 apply List.ext_getElem
 · simp
 · intro i h1 h2;simp
section
variable (d:ExD) (ti:Int) (key cwd:ByteArray)
def KI:List Rc:=(⟨1300,ti,0,sD (mkE d ti) key⟩ :: (if d.z=1 then [⟨1309,ti,0,wG d.gs⟩] else [])) ++ (if d.z=19∧d.gs.length=1 then [⟨1306,ti,0,CR (mkE d ti) (d.gs.headD ⟨#[]⟩)⟩] else [])
def KJ:List Rc:=if d.is.length=0 then [] else [⟨1307,ti,0,CS cwd⟩]
def KL:List Rc:=d.is.mapIdx fun i p=>⟨1302,ti,0,yX i p.1 p.2⟩
theorem xh:evE d ti key cwd=KI d ti key ++ KJ d ti cwd ++ KL d ti ++ [⟨1320,ti,0, []⟩]:=by
 unfold evE xG KI KJ KL;have hz:(mkE d ti).r.n=d.z:=rfl;have hi:(mkE d ti).is=d.is:=rfl;rw [hz,hi];simp only [List.map_append,List.map_cons,List.map_nil,Dt];congr 1;congr 1
 · congr 1
   · congr 1
     · split <;> rfl
     · split <;> rfl
   · split <;> rfl
end
abbrev cxL:Array Value:=#[.int .i64 2, .int .i64 0, .int .i64 0, .int .i64 0, .int .i64 0, .int .i64 0, .int .i64 0, .int .i64 0, .int .i64 0, .int .i64 0, .int .i64 0, .string ⟨#[]⟩, .string ⟨#[]⟩, .slice none 0 0, .bool false, .int .i64 3, .int .i64 0, .int .i64 0, .int .i64 0, .int .i64 0, .slice none 0 0, .slice none 0 0, .int .i64 0, .slice none 0 0, .int .i64 0]
theorem AP:(Tryz.prog.info? 54).map (·.size)=some cxL.size:=by show _=some 25;kernel_rfl
def xk (w:World) (e:Ending) (w' :World):Prop:=∃ (A:Option Addr) (c:Nat) (x y:Rm),e= .returned (.slice A 2 c)∧AtE ER w' w'.heap.size A [x,y]∧x.r.ty=1300∧x.r.ti=5∧x.r.ps.length=19∧y.r.ty=1320∧Below w.heap.size w w'
def mkL:Mk:=⟨none,0,0, .slice none 0 0,⟨2,fun _=>0,fun _=>0,0,0,⟨#[]⟩,⟨#[]⟩⟩,⟨0,0,⟨none,0,0⟩,false,3,⟨none,0,0⟩,⟨none,0,0⟩⟩,none,0,0,5, [], []⟩
theorem KM:mkL.X=cxL:=rfl
theorem Ho (key:ByteArray):evR mkL key [] ⟨#[]⟩= [⟨1300,5,0,sD mkL key⟩,⟨1320,5,0, []⟩]:=by
 have h1:dx mkL [] (xG mkL key [] ⟨#[]⟩)= [⟨1300,5,0,sD mkL key⟩]:=by
  have h2:xG mkL key [] ⟨#[]⟩= [(1300,sD mkL key)]:=rfl;rw [h2];show jU mkL [] 1300 (sD mkL key)=_;unfold jU;rw [if_neg (by decide)];rfl
 unfold evR;simp only [h1];rfl
theorem zx (W:World) (B:Nat):bZ W B none []:=⟨AtE.nil,Nat.zero_le _,fun d h=>(List.not_mem_nil h).elim,fun d h=>(List.not_mem_nil h).elim⟩
theorem Du (w:World) (hc:Calls10 w):Calls Tryz.prog 17 #[.agg #[.slice none 0 0, .slice none 0 0], .agg #[.slice none 0 0, .slice none 0 0], .agg cxL, .agg #[.bool true, .int .i64 0, .string ⟨#[107]⟩], .int .i64 5] w (xk w):=by
 have hv:=L9 mkL ⟨rfl,rfl,Nat.zero_le _,fun t w _ _=>AO (.slice none 0 0) mkL.cx mkL.r none 0 0 [] t w⟩ ⟨#[107]⟩ true 0 [] rfl (Nat.zero_le _) none 0 0 none 0 0 ⟨#[]⟩ w ⟨AtE.nil,Nat.zero_le _,fun x h=>by cases h⟩ cz.nil AtE.nil hc (fun W hW=>by
  refine (pJ [] none 0 0 rfl [] none 0 0 rfl (Nat.zero_le _) (dev:=0) (ino:=0) rfl W (zx W _) AtE.nil).mono ?_;rintro e w' ⟨h1,h2⟩;exact ⟨⟨false,h1⟩,h2⟩)
 rw [KM] at hv;refine hv.mono ?_;rintro e w' ⟨A,n,c,he,hn,⟨xs,hx,ho,hp⟩,hb⟩;rw [Ho] at hn hx;obtain ⟨x,ys,rfl,hx1,h2⟩:=List.map_eq_cons_iff.1 hx;obtain ⟨y,zs,rfl,hy,h3⟩:=List.map_eq_cons_iff.1 h2;obtain rfl:=List.map_eq_nil_iff.1 h3;have hx:x.r=⟨1300,5,0,sD mkL ⟨#[107]⟩⟩:=hx1;have hy:y.r=⟨1320,5,0, []⟩:=hy;obtain ⟨A',c',e',ha⟩:=ho.at;refine ⟨A,c,x,y,by rw [he,hn];rfl,?_,by rw [hx],by rw [hx],by rw [hx];rfl,by rw [hy],hb⟩;injection e' with e' _ _;rw [e'];exact ha
abbrev zxL:Array Value:=#[.int .i64 0, .int .i64 0, .int .i64 0, .int .i64 0, .int .i64 0, .int .i64 0, .int .i64 0, .int .i64 0, .int .i64 0, .int .i64 0, .int .i64 0, .string ⟨#[]⟩, .string ⟨#[]⟩, .slice none 0 0, .bool false, .int .i64 0, .int .i64 0, .int .i64 0, .int .i64 0, .int .i64 0, .slice none 0 0, .slice none 0 0, .int .i64 0, .slice none 0 0, .int .i64 0]
abbrev awW (w:World):World:=(w.alloc (.cells zxL 54)).setRow w.heap.size cxL
abbrev c47:Array Value:=#[.int .i64 3, .int .i64 0, .int .i64 0, .int .i64 0, .int .i64 0, .slice none 0 0, .slice none 0 0, .int .i64 0, .slice none 0 0, .int .i64 0]
theorem Dw (w:World) (hc:Calls10 w):Calls Tryz.prog 19 #[] w fun e w' =>e= .returned (.bool true)∧Below w.heap.size w w' :=by
 have hb0:Below w.heap.size w (awW w):=ai ((Below.refl _ _).alloc (Nat.le_refl _) _) (Nat.le_refl _) _;have X1:=Hd (show Blk (awW w) w.heap.size 54 cxL from (Blk.new w zxL 54).row cxL);have HE:=Hd (Du (awW w) (hc.below hb0 (Nat.le_refl _)));have HB0:=Hd hb0;clear hb0 hc;go_in;go_wp2_with (first
  | (refine wpList_buildTo rfl 51 _ rfl (some 3) rfl c47 (by as_aux_lemma=>kernel_rfl) ?_)
  | (refine wpList_buildTo rfl 54 _ rfl (some 4) rfl cxL (by as_aux_lemma=>kernel_rfl) ?_)
  | (refine Great.wpList_allocTo rfl (some 1) rfl (.pointer (some ⟨w.heap.size,0,none⟩)) (.cells zxL 54) (by as_aux_lemma=>kernel_rfl) ?_)
  | (refine wpList_store_rowTo rfl 54 _ _ rfl rfl w.heap.size cxL rfl rfl 54 zxL (heap_alloc_new w _) AP rfl (by as_aux_lemma=>kernel_rfl) ?_)
  | ((with_reducible refine ay ?_ 54 (.tmp 1) ?_ X1.o ?_ _ Tryz.underlying54 ?_ ?_ ?_);(iterate 4 rfl);exact AP))
 refine HE.o.mono ?_;rintro e w1 ⟨A,c,x,y,rfl,hA,t1,t2,t3,t4,hb1⟩;obtain ⟨ad,rfl,_,h0⟩:=hA 0 (by simp);obtain ⟨ad',e',_,h1⟩:=hA 1 (by simp);injection e' with e';subst e';obtain ⟨q0,q1,_,q3⟩:=mX (a:=ad) (x:=x) h0;have h4:w1.cell? ⟨ad.block,ad.off+4,none⟩=some (.int .i64 y.r.ty):=h1 0 (by show 0 < 4;omega);rw [t1] at q0;rw [t2] at q1;rw [t3] at q3;rw [t4] at h4;have HB1:=Hd (aa HB0.o hb1);clear t1 t2 t3 t4 hb1 h0 h1 hA X1 HE;go_wp2_with fail;go_ret;exact ⟨rfl,HB1.o⟩
abbrev bxA (w:World):World:=((w.alloc (.cells dJ 54)).alloc (.cells syZ 36)).alloc (.cells rsZ 57)
abbrev bxB (w:World) (d:ExD):World:=(bxA w).setRow w.heap.size d.X
abbrev bxC (w:World) (d:ExD):World:=(bxB w d).setRow (w.heap.size+1) (syC d.s)
abbrev bxD (w:World) (d:ExD):World:=(bxC w d).setRow (w.heap.size+2) d.R
theorem KN (w:World) (d:ExD):Below w.heap.size w (bxD w d)∧Blk (bxA w) w.heap.size 54 dJ∧Blk (bxB w d) (w.heap.size+1) 36 syZ∧Blk (bxC w d) (w.heap.size+2) 57 rsZ∧Blk (bxD w d) w.heap.size 54 d.X:=by
 have s1:(w.alloc (.cells dJ 54)).heap.size=w.heap.size+1:=by simp
 have s2:((w.alloc (.cells dJ 54)).alloc (.cells syZ 36)).heap.size=w.heap.size+2:=by simp
 have h1:=Blk.new (w.alloc (.cells dJ 54)) syZ 36;have h2:=Blk.new ((w.alloc (.cells dJ 54)).alloc (.cells syZ 36)) rsZ 57;rw [s1] at h1;rw [s2] at h2;have k0:Blk (bxA w) w.heap.size 54 dJ:=((Blk.new w dJ _).alloc _).alloc _;have k1:Blk (bxA w) (w.heap.size+1) 36 syZ:=h1.alloc _;have k2:Blk (bxA w) (w.heap.size+2) 57 rsZ:=h2;refine ⟨ai (ai (ai ((((Below.refl _ _).alloc (Nat.le_refl _) _).alloc (by rw [s1];omega) _).alloc (by rw [s2];omega) _) (Nat.le_refl _) _) (by omega) _) (by omega) _,k0,k1.ah _ (by omega),(k2.ah _ (by omega)).ah _ (by omega),?_⟩;exact ((k0.row d.X).ah _ (by omega)).ah _ (by omega)
theorem zy (d:ExD) (ti:Int) (key cwd:ByteArray):∀ x∈evE d ti key cwd,x.ps.length≤1000:=by
 have hx:∀ (t:Int) (ps:List Pr),ps.length≤1000→∀ x:Rc,x=⟨t,ti,0,ps⟩→x.ps.length≤1000:=fun t ps h x e=>by rw [e];exact h
 intro x hm;rw [xh] at hm;rcases List.mem_append.1 hm with hm | hm
 · rcases List.mem_append.1 hm with hm | hm
   · rcases List.mem_append.1 hm with hm | hm
     · unfold KI at hm;simp only [List.mem_append,List.mem_cons] at hm;rcases hm with (rfl | hm) | hm
       · exact (show (19:Nat)≤1000 by omega)
       · split at hm
         · rw [List.mem_singleton.1 hm];show (wG d.gs).length≤1000;unfold wG;simp only [List.length_cons,List.length_mapIdx,List.length_take];omega
         · cases hm
       · split at hm
         · rw [List.mem_singleton.1 hm];exact (show (2:Nat)≤1000 by omega)
         · cases hm
     · unfold KJ at hm;split at hm
       · cases hm
       · rw [List.mem_singleton.1 hm];exact (show (1:Nat)≤1000 by omega)
   · unfold KL at hm;obtain ⟨i,hi,e⟩:=List.mem_mapIdx.1 hm;rw [← e];exact (show (11:Nat)≤1000 by omega)
 · rw [List.mem_singleton.1 hm];exact Nat.zero_le _
theorem ExD.Ok.below {d:ExD} {w w' :World} {lo:Nat} (h:d.Ok w lo) (hb:Below w.heap.size w w'):d.Ok w' lo:=⟨h.hz,h.ha,h.hp,h.hg,h.og.below hb,h.oi.below hb,h.hi,h.os.below hb⟩
theorem zz {d:ExD} {w:World} {lo:Nat} (h:d.Ok w lo):d.is.length≤2:=by
 have h5:=h.hi.1;have h6:=kM d.z;have h7:=nH d.z;omega
def IY (A:Option Addr) (n c:Nat) (rs:List Ru):Option (Option Int)→Prop
 | none=>A=none∧n=0∧c=0∧rs= []
 | some ks=>n=1∧∃ x,rs= [x]∧x.r=r1 ks
def lvB (o:Option (Option Int)) (t:Int):Bool:=nU t && o.any fun ks=>m1 ks t
def mkX (d:ExD) (A:Option Addr) (n c:Nat) (v2:Value) (rs:List Ru):Mk:=⟨A,n,c,v2,exX d.a d.ex d.p,exR d.z d.p d.o ⟨d.P,d.ps.length,d.cp⟩ ⟨d.G,d.gs.length,d.cg⟩,d.I,d.nI,d.cI,1,rs,d.is⟩
theorem Od (c:Ctx) (is:List Itm) (k:Int) (h:c.ty≠0):Tst.ev c is ⟨22,1,k,⟨#[]⟩,0⟩=(c.ty == k):=by
 have h1:Cb c 22=true:=by rw [uY];simpa using h
 have h2:oH 22 1 k ⟨#[]⟩ 0=true:=by
  unfold oH;have h5:fK 22 1 k ⟨#[]⟩ 0 5=0:=by
   unfold fK;simp [show qU 5 22=true from by decide,show jQ 22=false from by decide];try rfl
  rw [h5];simp
 unfold Tst.ev uW;rw [h1,h2,if_neg (by simp),if_pos ⟨by show pX 22=false;decide,by show pX 0=false;decide⟩];unfold qV;simp [jQ,IK,IJ]
theorem zD (ks:Option Int) (c:Ctx) (n:Int) (is:List Itm) (t:Int):kQ [r1 ks] c n is t=lvB (some ks) t:=by
 unfold kQ lvB;cases ht:nU t with
 | false=>rfl
 | true=>
  have hz:t≠0:=by intro e;subst e;cases ht
  have hm:o9 { c with ty:=t } n is false (r1 ks)=m1 ks t:=by
   unfold o9;cases ks with
   | none=>rfl
   | some k=>show ((_ || _) && ((_ || _) && (Tst.ev _ is ⟨22,1,k,⟨#[]⟩,0⟩ && true)))=_;rw [Od _ _ _ hz];simp [r1,m1]
  unfold wh;rw [List.findIdx?_singleton,hm];show (true && _)=(true && m1 ks t);cases m1 ks t <;> rfl
theorem AU {d:ExD} {A:Option Addr} {n c:Nat} {v2:Value} {rs:List Ru} {o:Option (Option Int)} (h:IY A n c rs o) (t:Int):(mkX d A n c v2 rs).ex t=lvB o t:=by
 cases o with
 | none=>
  obtain ⟨_,_,_,rfl⟩:=h;show kQ [] _ _ _ t=_;unfold kQ lvB;cases nU t <;> rfl
 | some ks=>
  obtain ⟨_,x,rfl,hx⟩:=h;show kQ [x.r] _ _ _ t=_;rw [hx,zD]
theorem Hw {d:ExD} {A:Option Addr} {n c:Nat} {v2:Value} {rs:List Ru} {o:Option (Option Int)} (h:IY A n c rs o) (hi:d.nI=d.is.length) (hf:d.nI≤1000):(mkX d A n c v2 rs).Ok:=by
 refine ⟨?_,hi,hf,fun t w hr _=>?_⟩
 · cases o with
   | none=>obtain ⟨_,h,_,h2⟩:=h;show n=rs.length;rw [h,h2];rfl
   | some ks=>obtain ⟨h,x,h2,_⟩:=h;show n=rs.length;rw [h,h2];rfl
 · rw [AU h];cases o with
   | none=>
    obtain ⟨rfl,rfl,rfl,rfl⟩:=h;refine (AO v2 (exX d.a d.ex d.p) (exR d.z d.p d.o ⟨d.P,d.ps.length,d.cp⟩ ⟨d.G,d.gs.length,d.cg⟩) d.I d.nI d.cI [] t w).mono ?_;rintro e w' ⟨rfl,hb⟩;refine ⟨?_,hb⟩;unfold kQ lvB;cases nU t <;> rfl
   | some ks=>
    obtain ⟨rfl,x,rfl,hx⟩:=h;exact Hu ks x hx A c v2 _ _ _ t w hr
theorem kR {m:Mk} {p:Int→Bool} (h:∀ t,m.ex t=p t):∀ (l:List (Int×List Pr)) (L:List Rc),dx m L l=L ++ (l.map fun x=>(⟨x.1,m.ti,0,x.2⟩:Rc)).filter fun r=> !p r.ty
 | [],L=>by simp [dx]
 | x :: l,L=>by
  show dx m (jU m L x.1 x.2) l=_;rw [kR h l];unfold jU;rw [h];cases hp:p x.1 <;> simp [hp]
def elX (d:ExD) (cwd:ByteArray):List Rc:=(xG (mkE d 1) ⟨#[]⟩ d.gs cwd).map fun x=>⟨x.1,1,0,x.2⟩
def I1:Rc:=⟨1320,1,0, []⟩
def elO (d:ExD) (cwd:ByteArray) (o:Option (Option Int)):List Rc:=(elX d cwd).filter fun r=> !lvB o r.ty
def evO (d:ExD) (cwd:ByteArray) (o:Option (Option Int)):List Rc:=if elO d cwd o= [] then [] else elO d cwd o ++ [I1]
theorem KP {d:ExD} {A:Option Addr} {n c:Nat} {v2:Value} {rs:List Ru} {o:Option (Option Int)} (h:IY A n c rs o) (cwd:ByteArray):evR (mkX d A n c v2 rs) ⟨#[]⟩ d.gs cwd=evO d cwd o:=by
 unfold evR evO elO elX;rw [kR (AU h),List.nil_append];rfl
def EvX (w:World) (d:ExD) (s:Sy) (cwd:ByteArray):Prop:=∀ W,Below w.heap.size w W→∀ (A:Option Addr) (n c:Nat) (v2:Value) (rs:List Ru) (o:Option (Option Int)),IY A n c rs o→lC W W.heap.size A rs→
 Calls Tryz.prog 17 #[.agg #[.slice A n c,v2], .agg #[.slice s.A s.n s.c, .slice s.Am s.nm s.cm], .agg d.X, .agg #[.bool true, .int .i64 0, .string ⟨#[]⟩], .int .i64 1] W (Ef (evO d cwd o) W)
theorem EvX.later {w w' :World} {d:ExD} {s:Sy} {cwd:ByteArray} (h:EvX w d s cwd) (hb:Below w.heap.size w w'):EvX w' d s cwd:=fun W hW=>h W (aa hb hW)
theorem zF {w:World} {lo b:Nat} {d:ExD} (hd:d.Ok w lo) {s:Sy} (hs:SyO w b s) (hc:Calls10 w):∃ cwd:ByteArray,EvX w d s cwd:=by
 obtain ⟨ds,ms,ps,ho⟩:=hs;obtain ⟨cwd,ok,_,h3⟩:=sH ds s.A s.n s.c ho.few.2.2 ms s.Am s.nm s.cm ho.few.1 (by have:=ho.few.2.1;omega) ho.so d.p.cd d.p.ci;refine ⟨cwd,fun W hW A n c v2 rs o h1 hr=>?_⟩;have hd' :eT W b s ds ms ps:=ho.below hW;obtain ⟨A3,c3,e3,hi3⟩:=IQ.items (show IQ W lo (.slice d.I d.nI d.cI) d.is from hd.oi.below hW);injection e3 with e3 e3n _;obtain ⟨A4,c4,e4,hs4⟩:=(nk (hd.og.below hW)).at;injection e4 with e4 _ _;have hfw:d.is.length≤1000:=by have h5:=hd.hi.1;have h6:=kM d.z;have h7:=nH d.z;omega
 have hv:=L9 (mkX d A n c v2 rs) (Hw h1 e3n (by omega)) ⟨#[]⟩ true 0 d.gs rfl (by have:=hd.hg.1;omega) s.A s.n s.c s.Am s.nm s.cm cwd W hr (by show cz W W.heap.size d.I d.is;rw [e3];exact hi3) (by show AtE qb W W.heap.size d.G d.gs;rw [e4];exact hs4) (hc.below hW (Nat.le_refl _))
  (fun V hV=>((h3 V (hd'.below hV).files (hd'.below hV).aU).1).mono (by rintro e w' ⟨k1,k2⟩;exact ⟨⟨ok,k1⟩,k2⟩))
 rw [KP h1] at hv;exact hv
def kpB (kd:Int) (r:Rc):Bool:=r.ty != kd || !lvB (some (some kd)) kd
theorem AV (d:ExD) (cwd:ByteArray):∀ r∈elX d cwd,nU r.ty=true:=by
 intro r hr;obtain ⟨x,hx,rfl⟩:=List.mem_map.1 hr;show nU x.1=true;unfold xG at hx;simp only [List.mem_append] at hx;rcases hx with (((hx | hx) | hx) | hx) | hx
 · rw [List.mem_singleton.1 hx];rfl
 · split at hx
   · rw [List.mem_singleton.1 hx];rfl
   · cases hx
 · split at hx
   · rw [List.mem_singleton.1 hx];rfl
   · cases hx
 · split at hx
   · cases hx
   · rw [List.mem_singleton.1 hx];rfl
 · obtain ⟨i,hi,e⟩:=List.mem_mapIdx.1 hx;rw [← e];rfl
theorem rJ (d:ExD) (cwd:ByteArray):∃ r l,elX d cwd=r :: l:=⟨_,_,rfl⟩
theorem zG (d:ExD) (cwd:ByteArray):elO d cwd none=elX d cwd:=by
 unfold elO;rw [List.filter_eq_self];intro r _;unfold lvB;cases nU r.ty <;> rfl
theorem ku (d:ExD) (cwd:ByteArray):evO d cwd none=elX d cwd ++ [I1]:=by
 unfold evO;rw [zG,if_neg];obtain ⟨r,l,h⟩:=rJ d cwd;rw [h];simp
theorem xn (d:ExD) (cwd:ByteArray):1 < (evO d cwd none).length:=by
 rw [ku];obtain ⟨r,l,h⟩:=rJ d cwd;rw [h];simp
theorem DI (d:ExD) (cwd:ByteArray):evO d cwd (some none)= []:=by
 unfold evO;rw [if_pos];unfold elO;rw [List.filter_eq_nil_iff];intro r hr;unfold lvB;rw [AV d cwd r hr];simp [m1]
theorem DJ (d:ExD) (cwd:ByteArray) (kd:Int):(evO d cwd none).filter (kpB kd)=elO d cwd (some (some kd)) ++ [I1]:=by
 rw [ku,List.filter_append];congr 1
 · unfold elO;refine List.filter_congr fun r hr=>?_;have ht:=AV d cwd r hr;unfold kpB lvB;by_cases h:r.ty=kd
   · subst h;simp [ht,m1]
   · have h1:(r.ty == kd)=false:=(by simpa using h);simp [ht,m1,bne,h1]
 · unfold kpB I1 lvB;by_cases h:(1320:Int)=kd
   · subst h;rfl
   · have h1:((1320:Int) == kd)=false:=(by simpa using h);simp [bne,h1]
theorem xu (d:ExD) (cwd:ByteArray) (kd:Int):evO d cwd (some (some kd))=if ((evO d cwd none).filter (kpB kd)).length=1 then [] else (evO d cwd none).filter (kpB kd):=by
 rw [DJ];unfold evO;by_cases h:elO d cwd (some (some kd))= []
 · rw [if_pos h,h];rfl
 · rw [if_neg h,if_neg];intro e;rw [List.length_append] at e;exact h (List.eq_nil_of_length_eq_zero (by simpa using e))
theorem kS {α:Type} (p:α→Bool) (l:List α) {k:Nat} (hk:k < l.length):(l.take (k+1)).filter p=(l.take k).filter p ++ if p (l[k]'hk)=true then [l[k]'hk] else []:=by
 rw [List.take_succ_eq_append_getElem hk,List.filter_append];congr 1;cases h:p (l[k]'hk) <;> simp [h]
end Go.Proofs.YtollifnnpihfdaaGreatDoor
