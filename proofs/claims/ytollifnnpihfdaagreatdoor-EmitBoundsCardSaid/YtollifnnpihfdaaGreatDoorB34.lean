import Derived.Test.YtollifnnpihfdaaGreatDoorB24
import Derived.Test.YtollifnnpihfdaaGreatDoorB33
set_option maxRecDepth 100000
set_option maxHeartbeats 64000000
set_option linter.all false
namespace Go.Proofs.YtollifnnpihfdaaGreatDoor
open Go.RowKit
abbrev clC (z:Int) (a:Nat→Int) (P:Option Addr) (np cp:Nat) (G:Option Addr) (ng cg:Nat):Array Value:=#[.int .i64 z, .int .i64 (a 0), .int .i64 (a 1), .int .i64 (a 2), .int .i64 (a 3), .slice P np cp, .slice G ng cg]
def KT (w:World) (e:Ending) (w' :World):Prop:=(∃ b:Bool,e= .returned (.bool b))∧w=w'
theorem Dw (n:Int) (w:World):Calls Tryz.prog 138 #[.int .i64 n] w (KT w):=by
 by_cases h:0≤n
 · go_in;go_wp2_with fail;go_ret;exact ⟨⟨_,rfl⟩,rfl⟩
 · go_in;go_wp2_with fail;go_ret;exact ⟨⟨_,rfl⟩,rfl⟩
def kD (z:Int):Nat:=if z=8∨z=13 then 2 else 1
theorem lD (z:Int):(dE z).lJ≤kD z:=by
 by_cases h:0≤z∧z < 22
 · obtain ⟨h0,h1⟩:=h;obtain ⟨k,rfl⟩:∃ k:Nat,z=k:=⟨z.toNat,by omega⟩;have hk:k < 22:=(by omega);have H:∀ q:Fin 22,(dE (q.val:Int)).lJ≤kD (q.val:Int):=(by decide+kernel);exact H ⟨k,hk⟩
 · rw [gK (by omega)];exact Nat.zero_le _
def Dx (z:Int) (w:World) (e:Ending) (w' :World):Prop:=∃ (g n:Nat) (p:Nat→Int) (pc:Array Value),e= .returned (.slice (some ⟨g,0,none⟩) n n)∧kD z≤n∧n≤2∧w.heap.size≤g∧Blk w' g 3 pc∧(∀ k,k < n→pc[k]? =some (.int .i64 (p k)))∧Below w.heap.size w w'
theorem dI {w w0:World} {z:Int} (hb:Below w.heap.size w w0) (p:Int) (hz:kD z≤1):Dx z w (.returned (.slice (some ⟨w0.heap.size,0,none⟩) 1 1)) (w0.alloc (.cells #[.int .i64 p] 3)):=
 ⟨w0.heap.size,1,fun _=>p,_,rfl,hz,by omega,hb.size,Blk.new w0 #[.int .i64 p] 3,fun k hk=>by
  obtain rfl:k=0:=by omega
  rfl,hb.alloc hb.size _⟩
theorem sM {w w0:World} {z:Int} (hb:Below w.heap.size w w0) (p q:Int):Dx z w (.returned (.slice (some ⟨w0.heap.size,0,none⟩) 2 2)) (w0.alloc (.cells #[.int .i64 p, .int .i64 q] 3)):=
 ⟨w0.heap.size,2,fun k=>if k=0 then p else q,_,rfl,by unfold kD;split <;> omega,by omega,hb.size,Blk.new w0 #[.int .i64 p, .int .i64 q] 3,fun k hk=>by
  have h2:k=0∨k=1:=by omega
  rcases h2 with rfl | rfl
  · rfl
  · rfl,hb.alloc hb.size _⟩
theorem zP (z:Int) (a:Nat→Int) (P:Option Addr) (np cp:Nat) (G:Option Addr) (ng cg:Nat) (w:World):Calls Tryz.prog 136 #[.agg (clC z a P np cp G ng cg)] w (WbP w):=by
 have S0:=Hd (RdW.new w 51 (clC z a P np cp G ng cg));go_in;go_upto_region 1 with fail;generalize w.alloc (.cells (clC z a P np cp G ng cg) 51)=w0 at *;have c0:w0.cell? ⟨w.heap.size,0,none⟩=some (.int .i64 z):=S0.o.x.cell 0;have c1:w0.cell? ⟨w.heap.size,1,none⟩=some (.int .i64 (a 0)):=S0.o.x.cell 1;by_cases h6:z=6;case pos=>
  subst h6;go_wp2_with fail;go_ret;exact ⟨⟨_,rfl⟩,S0.o.b⟩
 case neg=>
  have p6:=(aM h6).1;by_cases h1:z=1;case pos=>
   subst h1;go_wp2_with fail;go_ret;exact ⟨⟨_,rfl⟩,S0.o.b⟩
  case neg=>
   have p1:=(aM h1).1;by_cases h14:z=14;case pos=>
    subst h14;go_wp2_with fail;go_ret;exact ⟨⟨_,rfl⟩,S0.o.b⟩
   case neg=>
    have p14:=(aM h14).1;by_cases h15:z=15;case pos=>
     subst h15;go_wp2_with fail;go_ret;exact ⟨⟨_,rfl⟩,S0.o.b⟩
    case neg=>
     have p15:=(aM h15).1;by_cases h16:z=16;case pos=>
      subst h16;go_wp2_with fail;go_ret;exact ⟨⟨_,rfl⟩,S0.o.b⟩
     case neg=>
      have p16:=(aM h16).1;by_cases h17:z=17;case pos=>
       subst h17;go_wp2_with fail;go_ret;exact ⟨⟨_,rfl⟩,S0.o.b⟩
      case neg=>
       have p17:=(aM h17).1;by_cases h21:z=21;case pos=>
        subst h21;go_wp2_with fail;go_ret;exact ⟨⟨_,rfl⟩,S0.o.b⟩
       case neg=>
        have p21:=(aM h21).1;go_wp2_with fail;go_ret;exact ⟨⟨_,rfl⟩,S0.o.b⟩
theorem Dy (z:Int) (a:Nat→Int) (P:Option Addr) (np cp:Nat) (G:Option Addr) (ng cg:Nat) (w:World):Calls Tryz.prog 134 #[.agg (clC z a P np cp G ng cg)] w (Dx z w):=by
 have S0:=Hd (RdW.new w 51 (clC z a P np cp G ng cg));go_in;go_upto_region 1 with fail;generalize w.alloc (.cells (clC z a P np cp G ng cg) 51)=w0 at *;have c0:w0.cell? ⟨w.heap.size,0,none⟩=some (.int .i64 z):=S0.o.x.cell 0;have c1:w0.cell? ⟨w.heap.size,1,none⟩=some (.int .i64 (a 0)):=S0.o.x.cell 1;by_cases h1:z=1;case pos=>
  subst h1;go_wp2_with fail;go_ret;exact dI S0.o.b _ (by decide)
 case neg=>
  have p1:=(aM h1).1;by_cases h6:z=6;case pos=>
   subst h6;cases b1:(bits BinOp.and IntKind.i64 (a 0) 1 == 0) with
   | true=>
    cases b2:(bits BinOp.and IntKind.i64 (a 0) 22 == 0) with
    | true=>
     go_wp2_with fail;go_ret;exact dI S0.o.b _ (by decide)
    | false=>
     go_wp2_with fail;go_ret;exact dI S0.o.b _ (by decide)
   | false=>
    cases b2:(bits BinOp.and IntKind.i64 (a 0) 22 == 0) with
    | true=>
     go_wp2_with fail;go_ret;exact dI S0.o.b _ (by decide)
    | false=>
     go_wp2_with fail;go_ret;exact dI S0.o.b _ (by decide)
  case neg=>
   have p6:=(aM h6).1;by_cases h8:z=8;case pos=>
    subst h8;go_wp2_with fail;go_ret;exact sM S0.o.b _ _
   case neg=>
    have p8:=(aM h8).1;by_cases h13:z=13;case pos=>
     subst h13;go_wp2_with fail;go_ret;exact sM S0.o.b _ _
    case neg=>
     have p13:=(aM h13).1;by_cases h14:z=14;case pos=>
      subst h14;go_wp2_with fail;go_ret;exact dI S0.o.b _ (by decide)
     case neg=>
      have p14:=(aM h14).1;by_cases h15:z=15;case pos=>
       subst h15;go_wp2_with fail;go_ret;exact dI S0.o.b _ (by decide)
      case neg=>
       have p15:=(aM h15).1;by_cases h17:z=17;case pos=>
        subst h17;go_wp2_with fail;go_ret;exact dI S0.o.b _ (by decide)
       case neg=>
        have p17:=(aM h17).1;by_cases h16:z=16;case pos=>
         subst h16;go_wp2_with fail;go_ret;exact dI S0.o.b _ (by decide)
        case neg=>
         have p16:=(aM h16).1;go_wp2_with fail;go_ret;exact dI S0.o.b _ (by unfold kD;rw [if_neg (fun h=>h.elim h8 h13)];exact Nat.le_refl 1)
structure WkA (w:World) (base:Nat) (u:Wu) (ps gs:List ByteArray):Prop where
 P:bD w base u.P ps
 G:bD w base u.G gs
 np:u.np=ps.length
 ng:u.ng=gs.length
 lp:ps.length≤kD u.z
 hp:∀ s∈ps,s.size≤128
 hg:∀ s∈gs,s.size≤64
 ck:oo u.z u.a ps gs=0
theorem WkA.keep {w w' :World} {base:Nat} {u:Wu} {ps gs:List ByteArray} (h:WkA w base u ps gs) (hb:Below base w w'):WkA w' base u ps gs:=⟨h.P.keep hb (Nat.le_refl _),h.G.keep hb (Nat.le_refl _),h.np,h.ng,h.lp,h.hp,h.hg,h.ck⟩
theorem gL {z:Int} {a:Nat→Int} {ps gs:List ByteArray} (h:oo z a ps gs=0):ps.length=(dE z).lJ∧(dE z).least≤gs.length∧gs.length≤(dE z).most∧jv ps 128=false∧jv gs 64=false∧(dE z).name.size≠0:=by
 unfold oo at h;split at h
 · cases h
 · split at h
   · cases h
   · split at h
     · cases h
     · split at h
       · cases h
       · rename_i h1 h2 h3 h4;simp only [not_or,Bool.not_eq_true,Decidable.not_not,Nat.not_lt] at h3 h4;exact ⟨h3.1,h3.2.1,h3.2.2,h4.1,h4.2,h1⟩
theorem qg (ad:Addr):ad.add 0=ad:=by unfold Addr.add;rw [if_pos rfl]
def BfP (w:World) (e:Ending) (w' :World):Prop:=(∃ k:Int,e= .returned (.int .i64 k))∧Below w.heap.size w w'
theorem Dz (base gw m:Nat) (u:Wu) (v:Wv) (ds:List Dm) (ms:List Mt) (fs:List Fo) (ps gs:List ByteArray) (w:World) (h:WkS w base gw u v ds ms fs m) (ha:WkA w base u ps gs):
  Calls Tryz.prog 85 #[.pointer (some ⟨gw,0,none⟩)] w (BfP w):=by
 have HW:=Hd h;have HA:=Hd ha;have S0:=Hd (RdW.new w 48 #[.int .i64 (u.a 0), .int .i64 (u.a 1), .int .i64 (u.a 2), .int .i64 (u.a 3)]);have x20:w.cell? ⟨gw,20,none⟩=some (.int .i64 (u.a 0)):=h.X.cell 20;have x21:w.cell? ⟨gw,21,none⟩=some (.int .i64 (u.a 1)):=h.X.cell 21;have x22:w.cell? ⟨gw,22,none⟩=some (.int .i64 (u.a 2)):=h.X.cell 22;have x23:w.cell? ⟨gw,23,none⟩=some (.int .i64 (u.a 3)):=h.X.cell 23;clear h ha;go_in;go_upto_region 2 with fail;clear x20 x21 x22 x23;generalize w.alloc (.cells #[.int .i64 (u.a 0), .int .i64 (u.a 1), .int .i64 (u.a 2), .int .i64 (u.a 3)] 48)=w0 at *;have W0:=Hd (HW.o.below S0.o.b);have x19:w0.cell? ⟨gw,19,none⟩=some (.int .i64 u.z):=W0.o.X.cell 19;have y0:w0.cell? ⟨w.heap.size,0,none⟩=some (.int .i64 (u.a 0)):=S0.o.x.cell 0;have y1:w0.cell? ⟨w.heap.size,1,none⟩=some (.int .i64 (u.a 1)):=S0.o.x.cell 1;by_cases hz:u.z=6;case pos=>
  rw [hz] at x19;by_cases h1:u.a 0 < 0;case pos=>
   go_wp2_with fail;go_ret;exact ⟨⟨_,rfl⟩,S0.o.b⟩
  case neg=>
   by_cases h2:63 < u.a 0;case pos=>
    go_wp2_with fail;go_ret;exact ⟨⟨_,rfl⟩,S0.o.b⟩
   case neg=>
    cases h3:(bits BinOp.and IntKind.i64 (u.a 0) 3 == 0) with
    | true=>
     go_wp2_with fail;go_ret;exact ⟨⟨_,rfl⟩,S0.o.b⟩
    | false=>
     go_wp2_with fail;refine (Dw (u.a 1) w0).mono ?_;rintro e w2 ⟨⟨b,rfl⟩,rfl⟩;cases b with
     | false=>
      go_wp2_with fail;go_ret;exact ⟨⟨_,rfl⟩,S0.o.b⟩
     | true=>
      have x17:w0.cell? ⟨gw,17,none⟩=some (.slice u.O u.no u.co):=W0.o.X.cell 17;by_cases h4:(8:Int)≤(u.no:Int);case pos=>
       go_wp2_with fail;go_ret;exact ⟨⟨_,rfl⟩,S0.o.b⟩
      case neg=>
       go_wp2_with fail;go_ret;exact ⟨⟨_,rfl⟩,S0.o.b⟩
 case neg=>
  have p6:=(aM hz).1;clear hz;by_cases hz:u.z=9;case pos=>
   rw [hz] at x19;have hz9:=(gL HA.o.ck).2.1;rw [hz,show (dE 9).least=1 by decide+kernel] at hz9;have hg0:0 < gs.length:=(by omega);obtain ⟨ad,eG,hab,hcx⟩:=HA.o.G 0 hg0;have HS:=Hd (HA.o.hg _ (List.getElem_mem hg0));generalize gs[0]'hg0=s at *;have hcy:w0.cell? ad=some (.string s):=(S0.o.b.cell (by have:=HW.o.big;have h3:=hab;omega)).trans (qg ad ▸ hcx);have x25:w0.cell? ⟨gw,25,none⟩=some (.slice (some ad) u.ng u.cg):=(by rw [← eG];exact W0.o.X.cell 25);have g1:(0:Int) < (u.ng:Int):=(by rw [HA.o.ng];omega);clear hcx eG hab hz9;cases he:s.toList.isEmpty with
   | true=>
    go_wp2_with fail;go_ret;exact ⟨⟨_,rfl⟩,S0.o.b⟩
   | false=>
    go_wp2_with fail;go_loopw [4] (fun i wr=>∃ k:Nat,k≤s.size∧i= .int .i64 k∧wr=w0) (fun i _=>s.size - (intOf i).toNat);case atStart=>exact ⟨0,Nat.zero_le _,rfl,rfl⟩
    case round=>
     obtain ⟨k,hk,rfl,rfl⟩:=hrel;have WK:=Hd (bq hk (by have:=HS.o;omega));by_cases hlt:k < s.size;case neg=>
      have k1:¬ (k:Int) < (s.size:Int):=(by omega);go_wp2_with fail;go_ret;exact ⟨⟨_,rfl⟩,S0.o.b⟩
     case pos=>
      have k1:(k:Int) < (s.size:Int):=(by omega);have k2:(0:Int)≤(k:Int):=(by omega);cases hz:((s[k].toNat:Int) == 0);case true=>
       go_wp2_with fail;go_ret;exact ⟨⟨_,rfl⟩,S0.o.b⟩
      case false=>
       obtain ⟨wk1,wk2⟩:=WK.o;go_wp2_with fail;clear wk1 wk2;go_roundw;case rel=>exact ⟨k+1,hlt,rfl,by first | rfl | trivial⟩
       case measure=>exact aN hlt _ rfl
  case neg=>
   have p9:=(aM hz).1;clear hz;by_cases hz:u.z=11;case pos=>
    rw [hz] at x19;go_wp2_with fail;refine (Dw (u.a 0) w0).mono ?_;rintro e w2 ⟨⟨b,rfl⟩,rfl⟩;cases b with
    | false=>
     go_wp2_with fail;go_ret;exact ⟨⟨_,rfl⟩,S0.o.b⟩
    | true=>
     go_wp2_with fail;go_ret;exact ⟨⟨_,rfl⟩,S0.o.b⟩
   case neg=>
    have p11:=(aM hz).1;clear hz;by_cases hz:u.z=14;case pos=>
     rw [hz] at x19;go_wp2_with fail;refine (Dw (u.a 0) w0).mono ?_;rintro e w2 ⟨⟨b,rfl⟩,rfl⟩;cases b with
     | false=>
      go_wp2_with fail;go_ret;exact ⟨⟨_,rfl⟩,S0.o.b⟩
     | true=>
      go_wp2_with fail;go_ret;exact ⟨⟨_,rfl⟩,S0.o.b⟩
    case neg=>
     have p14:=(aM hz).1;clear hz;by_cases hz:u.z=15;case pos=>
      rw [hz] at x19;by_cases h1:u.a 0 < 0;case pos=>
       go_wp2_with fail;go_ret;exact ⟨⟨_,rfl⟩,S0.o.b⟩
      case neg=>
       by_cases h2:4294967295 < u.a 0;case pos=>
        go_wp2_with fail;go_ret;exact ⟨⟨_,rfl⟩,S0.o.b⟩
       case neg=>
        by_cases h3:u.a 1 < 0;case pos=>
         go_wp2_with fail;go_ret;exact ⟨⟨_,rfl⟩,S0.o.b⟩
        case neg=>
         by_cases h4:4294967295 < u.a 1;case pos=>
          go_wp2_with fail;go_ret;exact ⟨⟨_,rfl⟩,S0.o.b⟩
         case neg=>
          go_wp2_with fail;go_ret;exact ⟨⟨_,rfl⟩,S0.o.b⟩
     case neg=>
      have p15:=(aM hz).1;clear hz;by_cases hz:u.z=17;case pos=>
       rw [hz] at x19;have x8:w0.cell? ⟨gw,8,none⟩=some (.int .i64 u.p.eu):=W0.o.X.cell 8;cases h1:(u.p.eu == 0) with
       | true=>
        go_wp2_with fail;go_ret;exact ⟨⟨_,rfl⟩,S0.o.b⟩
       | false=>
        go_wp2_with fail;go_ret;exact ⟨⟨_,rfl⟩,S0.o.b⟩
      case neg=>
       have p17:=(aM hz).1;clear hz;by_cases hz:u.z=21;case pos=>
        rw [hz] at x19;by_cases h1:u.a 0 < 0;case pos=>
         go_wp2_with fail;go_ret;exact ⟨⟨_,rfl⟩,S0.o.b⟩
        case neg=>
         go_wp2_with fail;go_ret;exact ⟨⟨_,rfl⟩,S0.o.b⟩
       case neg=>
        have p21:=(aM hz).1;clear hz;go_wp2_with fail;go_ret;exact ⟨⟨_,rfl⟩,S0.o.b⟩
theorem zR (a b a3 b3:Int) (x:ByteArray):Tryz.prog.built 223 [(0, .agg #[.int .i64 a, .int .i64 b]),(1, .string x),(2, .agg #[.int .i64 a3, .int .i64 b3]),(3, .bool true)]=some (foC ⟨a,b,x,a3,b3,true,false,⟨#[]⟩⟩):=by
 kernel_rfl
def eT (w:World) (base:Nat) (v:Value) (L:List Rc):Prop:=∃ xs:List Rm,xs.map (·.r)=L∧ax ER w base v xs∧∀ x∈xs,ax EP w base x.sl x.r.ps
section
variable {w w' :World} {base:Nat} {v v' :Value} {L:List Rc}
theorem eT.nil (w:World) (base:Nat):eT w base (.slice none 0 0) []:=⟨[],rfl,ax.nil _ _,fun _ h=>by cases h⟩
theorem eT.below (h:eT w base v L) (hb:Below w.heap.size w w'):eT w' base v L:=by
 obtain ⟨xs,e,ho,hp⟩:=h;exact ⟨xs,e,ho.below hb,fun x hx=>(hp x hx).below hb⟩
theorem eT.cell (h:eT w base v L) {g i:Nat} {t:TypeId} {cs:Array Value} (hg:Blk w g t cs) (h1:(77:Nat)≠t) (h2:(79:Nat)≠t) (u:Value):eT (w.setCell ⟨g,i,none⟩ u) base v L:=by
 obtain ⟨xs,e,ho,hp⟩:=h;exact ⟨xs,e,ho.bH (ay ho hg h1) u,fun x hx=>(hp x hx).bH (ay (hp x hx) hg h2) u⟩
theorem eT.app (h:eT w base v L) (x:Rm) {xs:List Rm} (e:xs.map (·.r)=L) (ho:ax ER w base v xs) (hp:∀ x∈xs,ax EP w base x.sl x.r.ps) (hx:ax EP w base x.sl x.r.ps) (hn:ax ER w' base v' (xs ++ [x])) (hg:w.grownBy w' v.ownBlock):eT w' base v' (L ++ [x.r]):=by
 refine ⟨xs ++ [x],by rw [List.map_append,e];rfl,hn,fun y hy=>?_⟩;have k:∀ {y:Rm},ax EP w base y.sl y.r.ps→ax EP w' base y.sl y.r.ps:=fun {y} hy=>hy.far hg (fun k e r=>aB hy ho (show (79:Nat)≠77 by decide) k e r);rcases List.mem_append.1 hy with hy | hy
 · exact k (hp y hy)
 · rw [List.mem_singleton.1 hy];exact k hx
end
structure Mk where
 A:Option Addr
 n:Nat
 c:Nat
 v2:Value
 cx:Ctx
 r:eH
 Ai:Option Addr
 ni:Nat
 ci:Nat
 ti:Int
 rs:List Ru
 is:List (Itm×bE)
def Mk.C (m:Mk) (v:Value):Array Value:=#[.slice m.A m.n m.c,m.v2, .int .i64 m.cx.ph, .int .i64 (m.cx.p 0), .int .i64 (m.cx.p 1), .int .i64 (m.cx.p 2), .int .i64 (m.cx.p 3), .int .i64 (m.cx.p 4), .int .i64 (m.cx.p 5), .int .i64 (m.cx.p 6), .int .i64 (m.cx.p 7), .int .i64 m.r.d, .int .i64 m.r.i, .string m.cx.comm, .string m.cx.exe,m.r.o.v, .bool m.r.u, .int .i64 m.r.n, .int .i64 (m.cx.a 0), .int .i64 (m.cx.a 1), .int .i64 (m.cx.a 2), .int .i64 (m.cx.a 3),m.r.ps.v,m.r.gs.v, .int .i64 m.cx.ex, .slice m.Ai m.ni m.ci, .int .i64 m.cx.ty, .int .i64 m.ti,v]
abbrev Mk.X (m:Mk):Array Value:=gT m.cx m.r (.slice m.Ai m.ni m.ci)
abbrev Mk.P (m:Mk):Array Value:=#[.slice m.A m.n m.c,m.v2]
def Mk.ex (m:Mk) (t:Int):Bool:=rF (m.rs.map (·.r)) m.cx m.r.n (m.is.map (·.1)) t
theorem Mk.Ig (m:Mk) (t:Int):m.ex t=rF (m.rs.map (·.r)) m.cx m.r.n (m.is.map (·.1)) t:=rfl
theorem Mk.list (m:Mk) (v:Value):(m.C v).toList= [.slice m.A m.n m.c,m.v2] ++ (m.X.toList ++ [.int .i64 m.ti,v]):=rfl
theorem Mk.sub (m:Mk) (v:Value) (j:Nat) (u:Value) (h:m.X.toList[j]? =some u):(m.C v)[2+j]? =some u:=by
 rw [← Array.getElem?_toList,m.list,List.getElem?_append_right (by simp)];have hj:j < m.X.toList.length:=(List.getElem?_eq_some_iff.1 h).1;rw [List.getElem?_append_left (by simpa using hj)];simpa using h
theorem Mk.c27 (m:Mk) (v:Value):(m.C v)[27]? =some (.int .i64 m.ti):=rfl
theorem Mk.c28 (m:Mk) (v:Value):(m.C v)[28]? =some v:=rfl
theorem Mk.set (m:Mk) (v u:Value):(m.C v).setIfInBounds 28 u=m.C u:=rfl
def OL (m:Mk):Prop:=∀ (t:Int) (w:World),yP w w.heap.size m.A m.rs→cz w w.heap.size m.Ai m.is→
 Calls Tryz.prog 94 #[.agg m.P, .agg m.X, .int .i64 t] w fun e w' =>e= .returned (.bool (m.ex t))∧Below w.heap.size w w'
structure Mk.Ok (m:Mk):Prop where
 hn:m.n=m.rs.length
 hi:m.ni=m.is.length
 few:m.ni≤1000
 xc:OL m
structure EvG (m:Mk) (w:World) (base g:Nat) (L:List Rc):Prop where
 blk:∃ v,Blk w g 124 (m.C v)∧eT w base v L
 hg:base≤g
 rules:yP w base m.A m.rs
 items:cz w base m.Ai m.is
 ok:m.Ok
 few:L.length≤2000
def kE (m:Mk) (L:List Rc) (t:Int) (ps:List Pr):List Rc:=if m.ex t=true then L else L ++ [⟨t,m.ti,0,ps⟩]
section
variable {m:Mk} {w w' :World} {base g:Nat} {L:List Rc}
theorem EvG.below (h:EvG m w base g L) (hb:Below w.heap.size w w'):EvG m w' base g L:=by
 obtain ⟨v,h1,h2⟩:=h.blk;have hl:base≤w.heap.size:=Nat.le_trans h.hg (Nat.le_of_lt h1.lt);exact ⟨⟨v,h1.below hb,h2.below hb⟩,h.hg,h.rules.keep hb hl,h.items.keep hb hl,h.ok,h.few⟩
theorem EvG.lt (h:EvG m w base g L):g < w.heap.size:=by
 obtain ⟨v,h1,_⟩:=h.blk;exact h1.lt
end
theorem BU {m:Mk} {w:World} {g:Nat} {v:Value} (h:Blk w g 124 (m.C v)):(loadVar 54 ⟨g,2,none⟩).run Tryz.prog w= .ok (.agg m.X) w:=
 si (fun j u hu=>by rw [JF,h.cell];exact m.sub v j u hu) Tryz.underlying54 rfl (sD _ _ _)
theorem Ih {m:Mk} {w:World} {g:Nat} {v:Value} (h:Blk w g 124 (m.C v)):(loadVar 41 ⟨g,0,none⟩).run Tryz.prog w= .ok (.agg m.P) w:=
 si (fun j u hu=>by
  rw [JF,h.cell]
  match j with
  | 0=>simp at hu;subst hu;rfl
  | 1=>simp at hu;subst hu;rfl
  | j+2=>simp at hu) Tryz.underlying41 rfl (by show _=some 2;kernel_rfl)
def Af (m:Mk) (base g:Nat) (L:List Rc) (w:World) (e:Ending) (w' :World):Prop:=e= .returned (.tuple #[])∧EvG m w' base g L∧Below base w w' ∧∀ (k:Nat) (t:TypeId) (cs:Array Value),t≠77→k≠g→Blk w k t cs→Blk w' k t cs
attribute [local irreducible] Mk.C Mk.ex
attribute [-go_sem] loadVar
attribute [local go_sem] lv3 ET EU
theorem xQ (m:Mk) (base g:Nat) (L:List Rc) (t:Int) (A:Option Addr) (n c:Nat) (ps:List Pr) (hn:n=ps.length) (hl:n≤1000) (hL:L.length < 2000) (w:World) (hE:EvG m w base g L) (hA:AtE EP w w.heap.size A ps):
  Calls Tryz.prog 46 #[.pointer (some ⟨g,0,none⟩), .int .i64 t, .slice A n c] w (Af m base g (kE m L t ps) w):=by
 obtain ⟨v,hb,xs,exs,ho,hp⟩:=hE.blk;have HG:=Hd hb;have HO:=Hd ho;have HP:=Hd hp;have HX:=Hd exs;have HE:=Hd hE;have HA:=Hd hA;have HN:=Hd hn;have HLL:=Hd hL;have hlt:=hb.lt;have hbg:=hE.hg;have HNE:=Hd (ay ho hb (show (77:Nat)≠124 by decide));clear hb ho hp exs hE hA hn hL;go_in;go_upto_region 0 with fail;go_cut [16] (fun u wx=>u= .bool (!m.ex t)∧Below w.heap.size w wx);case first=>
  refine wp_region_held_drew (S:=(fun w' =>Blk w' g 124 (m.C v))) (by kernel_rfl) (Blk.below HG.o (Below.refl _ _).drew) (fun hHeld=>?_);refine tk hHeld 0 ?_ ?_ (tk hHeld 1 ?_ ?_ (tk hHeld 2 ?_ ?_ (tk hHeld 3 ?_ ?_ (tk hHeld 4 ?_ ?_ (tk hHeld 5 ?_ ?_ (tk hHeld 6 ?_ ?_ (tk hHeld 7 ?_ ?_ (tk hHeld 8 ?_ ?_ ?_))))))));iterate 9
    rotate_left
    · intro w hSw;have hl:=Ih hSw;have OM:=BU hSw;go_simp;first | (with_reducible rfl) | (rw [if_neg (by first | omega | (simp;omega))])
  refine rdy1 9 (fun K hK=>?_);go_simp;go_at_call 94;have HE1:=HE.o.below (Below.refl w.heap.size w).drew;refine (HE1.ok.xc t _ (HE1.rules.more (Nat.le_trans hbg (Nat.le_of_lt HE1.lt))) (HE1.items.more (Nat.le_trans hbg (Nat.le_of_lt HE1.lt)))).mono ?_;rintro e w1 ⟨rfl,hb1⟩;clear HE1;have HB1:=Hd (aa (Below.refl w.heap.size w).drew hb1);have hh:=Blk.below hHeld hb1;clear hb1;go_simp;refine hK.o _ _ hh (fun hHeld=>?_);clear hK K;clear hh;refine tk hHeld 10 ?_ ?_ ?_;rotate_left
  · intro w hSw;go_simp;first | (with_reducible rfl) | (rw [if_neg (by first | omega | (simp;omega))])
  refine wpAnyH_done (by kernel_rfl) ?_ _;go_wp2_with fail;go_meet;exact ⟨by rw [m.Ig],HB1.o⟩
 case rest=>
 obtain ⟨rfl,hb0⟩:=hcut;have HB0:=Hd hb0;clear hb0;cases hx:m.ex t with
 | true=>
  simp only [Bool.not_true];go_wp2_with fail
  go_end0
  exact ⟨rfl,by unfold kE;rw [if_pos hx];exact HE.o.below HB0.o,HB0.o.mono (by omega),fun k t cs _ _ hk=>hk.below HB0.o⟩
 | false=>
  simp only [Bool.not_false];have HAD:=Hd (show kE m L t ps=L ++ [⟨t,m.ti,0,ps⟩] by unfold kE;rw [if_neg (by rw [hx];decide)]);clear hx;go_wp2_with fail;have HB1:=Hd HB0.o.drew;have HA2:=Hd (HA.o.below HB1.o);refine wp_region_held_drew (S:=(fun w' =>∃ v,Blk w' g 124 (m.C v))) (by kernel_rfl) ⟨_,HG.o.below HB1.o⟩ (fun hHeld=>?_);clear HB0;generalize wc.drew=wd at *;refine tk hHeld 0 ?_ ?_ (tk hHeld 1 ?_ ?_ (tk hHeld 2 ?_ ?_ (tk hHeld 3 ?_ ?_ (tk hHeld 5 ?_ ?_ (tk hHeld 6 ?_ ?_ (tk hHeld 7 ?_ ?_ (tk hHeld 8 ?_ ?_ (tk hHeld 9 ?_ ?_ (tk hHeld 10 ?_ ?_ ?_)))))))));iterate 10
    rotate_left
    · intro w hSw;obtain ⟨vv,hb⟩:=hSw;have k27:=(hb.cell 27).trans (m.c27 vv);go_simp;first | (with_reducible rfl) | (rw [if_neg (by first | omega | (simp;omega))])
  have HWD:=Hd (show w.heap.size≤wd.heap.size from HB1.o.size);refine wpAnyH_ready (rs:= [4,11]) (by kernel_rfl) (by simp) ?_;refine (AllReadyH.cons rfl (fun K hK=>?_) (AllReadyH.cons rfl (fun K hK=>?_) AllReadyH.nil))
  · have k28:=((HG.o.below HB1.o).cell 28).trans (m.c28 v);go_simp;refine hK.o _ _ hHeld (fun hHeld=>?_);clear hK K k28;refine wpAnyH_ready (rs:= [11]) (by kernel_rfl) (by simp) ?_;refine (AllReadyH.cons rfl (fun K hK=>?_) AllReadyH.nil);go_simp;go_at_call 66;refine (wE A n c ps HN.o hl _ HA2.o).mono ?_;rintro e w1 ⟨A',c',rfl,hoc,hb1⟩;have HB1:=Hd (aa HB1.o hb1);have HOC:=Hd (hoc.low (base:=base) (by have:=HWD.o;omega));clear hoc hb1;go_simp;refine hK.o _ _ ⟨_,HG.o.below HB1.o⟩ (fun hHeld=>?_);clear hK K;refine tk hHeld 12 ?_ ?_ ?_;rotate_left
    · intro w hSw;go_simp;first | (with_reducible rfl) | (rw [if_neg (by first | omega | (simp;omega))])
    refine wpAnyH_ready (rs:= [13]) (by kernel_rfl) (by simp) ?_;refine (AllReadyH.cons rfl (fun K hK=>?_) AllReadyH.nil);have HB1:=Hd (HB1.o.alloc HB1.o.size (.cells #[.int .i64 t, .int .i64 m.ti, .int .i64 0, .slice A' n c'] 77));have HOC:=Hd (HOC.o.alloc (.cells #[.int .i64 t, .int .i64 m.ti, .int .i64 0, .slice A' n c'] 77));have RW:=Hd (aI ER w1 #[.int .i64 t, .int .i64 m.ti, .int .i64 0, .slice A' n c'] 77 (⟨⟨t,m.ti,0,ps⟩,A',c'⟩:Rm) (by rw [HN.o];rfl) (Nat.lt_succ_self w1.heap.size));go_simp;refine hK.o _ _ ⟨_,HG.o.below HB1.o⟩ (fun hHeld=>?_);clear hK K;have HXL:=Hd (show xs.length+1≤1000000 by have:=HLL.o;rw [← HX.o,List.length_map] at this;omega);refine rdy1 14 (fun K hK=>?_);refine aQ ER (by rfl) (.tmp 21) (.tmp 30) (by rfl) base v xs (by rfl) (HO.o.below HB1.o) (w1.heap.size+1) (some ⟨w1.heap.size,0,none⟩) 1 1 [(⟨⟨t,m.ti,0,ps⟩,A',c'⟩:Rm)] (by rfl) (by rfl) RW.o HXL.o (by have:=HB1.o.size;omega) ?_;intro v6 w6 ho6 hg6 iR;have HG6:=Hd (Blk.grown (HG.o.below HB1.o) hg6 HNE.o);have HR6:=Hd (eT.app (w:=w1.alloc (.cells #[.int .i64 t, .int .i64 m.ti, .int .i64 0, .slice A' n c'] 77)) (base:=base) (v:=v) (L:=L) ⟨xs,HX.o,HO.o.below HB1.o,fun x hx=>(HP.o x hx).below HB1.o⟩ (⟨⟨t,m.ti,0,ps⟩,A',c'⟩:Rm) HX.o (HO.o.below HB1.o) (fun x hx=>(HP.o x hx).below HB1.o) (by show ax EP _ base (.slice A' ps.length c') ps;rw [← HN.o];exact HOC.o) ho6 hg6);have HB6:=Hd ((HB1.o.mono (show base≤w.heap.size by omega)).grown hg6 (by have:=HB1.o.size;omega) (fun k e=>HO.o.ge k e));have HKP:=Hd (show ∀ (k:Nat) (t:TypeId) (cs:Array Value),t≠77→Blk w k t cs→Blk w6 k t cs from fun k t cs ht hk=>Blk.grown (hk.below HB1.o) hg6 (ay (HO.o.below HB1.o) (hk.below HB1.o) (fun e=>ht e.symm)));obtain ⟨A7,c7,e7,_⟩:=ho6.at;subst e7;generalize (xs ++ [(⟨⟨t,m.ti,0,ps⟩,A',c'⟩:Rm)]).length=l7 at *;refine hK.o _ _ ⟨_,HG6.o⟩ (fun hHeld=>?_);clear hK K hg6 iR ho6;refine tk hHeld 15 ?_ ?_ (tk hHeld 16 ?_ ?_ ?_);iterate 2
      rotate_left
      · intro w hSw;go_simp;first | (with_reducible rfl) | (rw [if_neg (by first | omega | (simp;omega))])
    have k28:=(HG6.o.cell 28).trans (m.c28 _);have f28:=HG6.o.free 28;have hg7:=Blk.put HG6.o 28 (.slice A7 l7 c7);rw [m.set] at hg7;have HG7:=Hd hg7;clear hg7;refine rdy1 17 (fun K hK=>?_);go_simp;refine hK.o _ _ ⟨_,HG7.o⟩ (fun hHeld=>?_);clear hK K;refine wpAnyH_done (by kernel_rfl) ?_ _;clear k28 f28;go_wp2_with fail
    go_end0
    have HBF:=HB6.o.setCell (p:=⟨g,28,none⟩) hbg (.slice A7 l7 c7);refine ⟨rfl,?_,HBF,fun k t cs ht hkg hk=>Blk.af (HKP.o k t cs ht hk) _ (by show k≠g;exact hkg)⟩;rw [HAD.o];exact ⟨⟨_,HG7.o,HR6.o.cell HG6.o (by decide) (by decide) _⟩,hbg,HE.o.rules.keep HBF (Nat.le_refl _),HE.o.items.keep HBF (Nat.le_refl _),HE.o.ok,by have:=HLL.o;rw [List.length_append,List.length_singleton];omega⟩
  · go_simp;go_at_call 66;refine (wE A n c ps HN.o hl _ HA2.o).mono ?_;rintro e w1 ⟨A',c',rfl,hoc,hb1⟩;have HB1:=Hd (aa HB1.o hb1);have HOC:=Hd (hoc.low (base:=base) (by have:=HWD.o;omega));clear hoc hb1;go_simp;refine hK.o _ _ ⟨_,HG.o.below HB1.o⟩ (fun hHeld=>?_);clear hK K;refine tk hHeld 12 ?_ ?_ ?_;rotate_left
    · intro w hSw;go_simp;first | (with_reducible rfl) | (rw [if_neg (by first | omega | (simp;omega))])
    refine wpAnyH_ready (rs:= [4,13]) (by kernel_rfl) (by simp) ?_;refine (AllReadyH.cons rfl (fun K hK=>?_) (AllReadyH.cons rfl (fun K hK=>?_) AllReadyH.nil))
    · have k28:=((HG.o.below HB1.o).cell 28).trans (m.c28 v);go_simp;refine hK.o _ _ hHeld (fun hHeld=>?_);clear hK K k28;refine wpAnyH_ready (rs:= [13]) (by kernel_rfl) (by simp) ?_;refine (AllReadyH.cons rfl (fun K hK=>?_) AllReadyH.nil);have HB1:=Hd (HB1.o.alloc HB1.o.size (.cells #[.int .i64 t, .int .i64 m.ti, .int .i64 0, .slice A' n c'] 77));have HOC:=Hd (HOC.o.alloc (.cells #[.int .i64 t, .int .i64 m.ti, .int .i64 0, .slice A' n c'] 77));have RW:=Hd (aI ER w1 #[.int .i64 t, .int .i64 m.ti, .int .i64 0, .slice A' n c'] 77 (⟨⟨t,m.ti,0,ps⟩,A',c'⟩:Rm) (by rw [HN.o];rfl) (Nat.lt_succ_self w1.heap.size));go_simp;refine hK.o _ _ ⟨_,HG.o.below HB1.o⟩ (fun hHeld=>?_);clear hK K;have HXL:=Hd (show xs.length+1≤1000000 by have:=HLL.o;rw [← HX.o,List.length_map] at this;omega);refine rdy1 14 (fun K hK=>?_);refine aQ ER (by rfl) (.tmp 21) (.tmp 30) (by rfl) base v xs (by rfl) (HO.o.below HB1.o) (w1.heap.size+1) (some ⟨w1.heap.size,0,none⟩) 1 1 [(⟨⟨t,m.ti,0,ps⟩,A',c'⟩:Rm)] (by rfl) (by rfl) RW.o HXL.o (by have:=HB1.o.size;omega) ?_;intro v6 w6 ho6 hg6 iR;have HG6:=Hd (Blk.grown (HG.o.below HB1.o) hg6 HNE.o);have HR6:=Hd (eT.app (w:=w1.alloc (.cells #[.int .i64 t, .int .i64 m.ti, .int .i64 0, .slice A' n c'] 77)) (base:=base) (v:=v) (L:=L) ⟨xs,HX.o,HO.o.below HB1.o,fun x hx=>(HP.o x hx).below HB1.o⟩ (⟨⟨t,m.ti,0,ps⟩,A',c'⟩:Rm) HX.o (HO.o.below HB1.o) (fun x hx=>(HP.o x hx).below HB1.o) (by show ax EP _ base (.slice A' ps.length c') ps;rw [← HN.o];exact HOC.o) ho6 hg6);have HB6:=Hd ((HB1.o.mono (show base≤w.heap.size by omega)).grown hg6 (by have:=HB1.o.size;omega) (fun k e=>HO.o.ge k e));have HKP:=Hd (show ∀ (k:Nat) (t:TypeId) (cs:Array Value),t≠77→Blk w k t cs→Blk w6 k t cs from fun k t cs ht hk=>Blk.grown (hk.below HB1.o) hg6 (ay (HO.o.below HB1.o) (hk.below HB1.o) (fun e=>ht e.symm)));obtain ⟨A7,c7,e7,_⟩:=ho6.at;subst e7;generalize (xs ++ [(⟨⟨t,m.ti,0,ps⟩,A',c'⟩:Rm)]).length=l7 at *;refine hK.o _ _ ⟨_,HG6.o⟩ (fun hHeld=>?_);clear hK K hg6 iR ho6;refine tk hHeld 15 ?_ ?_ (tk hHeld 16 ?_ ?_ ?_);iterate 2
        rotate_left
        · intro w hSw;go_simp;first | (with_reducible rfl) | (rw [if_neg (by first | omega | (simp;omega))])
      have k28:=(HG6.o.cell 28).trans (m.c28 _);have f28:=HG6.o.free 28;have hg7:=Blk.put HG6.o 28 (.slice A7 l7 c7);rw [m.set] at hg7;have HG7:=Hd hg7;clear hg7;refine rdy1 17 (fun K hK=>?_);go_simp;refine hK.o _ _ ⟨_,HG7.o⟩ (fun hHeld=>?_);clear hK K;refine wpAnyH_done (by kernel_rfl) ?_ _;clear k28 f28;go_wp2_with fail
      go_end0
      have HBF:=HB6.o.setCell (p:=⟨g,28,none⟩) hbg (.slice A7 l7 c7);refine ⟨rfl,?_,HBF,fun k t cs ht hkg hk=>Blk.af (HKP.o k t cs ht hk) _ (by show k≠g;exact hkg)⟩;rw [HAD.o];exact ⟨⟨_,HG7.o,HR6.o.cell HG6.o (by decide) (by decide) _⟩,hbg,HE.o.rules.keep HBF (Nat.le_refl _),HE.o.items.keep HBF (Nat.le_refl _),HE.o.ok,by have:=HLL.o;rw [List.length_append,List.length_singleton];omega⟩
    · have HB1:=Hd (HB1.o.alloc HB1.o.size (.cells #[.int .i64 t, .int .i64 m.ti, .int .i64 0, .slice A' n c'] 77));have HOC:=Hd (HOC.o.alloc (.cells #[.int .i64 t, .int .i64 m.ti, .int .i64 0, .slice A' n c'] 77));have RW:=Hd (aI ER w1 #[.int .i64 t, .int .i64 m.ti, .int .i64 0, .slice A' n c'] 77 (⟨⟨t,m.ti,0,ps⟩,A',c'⟩:Rm) (by rw [HN.o];rfl) (Nat.lt_succ_self w1.heap.size));go_simp;refine hK.o _ _ ⟨_,HG.o.below HB1.o⟩ (fun hHeld=>?_);clear hK K;refine wpAnyH_ready (rs:= [4]) (by kernel_rfl) (by simp) ?_;refine (AllReadyH.cons rfl (fun K hK=>?_) AllReadyH.nil);have k28:=((HG.o.below HB1.o).cell 28).trans (m.c28 v);go_simp;refine hK.o _ _ hHeld (fun hHeld=>?_);clear hK K k28;have HXL:=Hd (show xs.length+1≤1000000 by have:=HLL.o;rw [← HX.o,List.length_map] at this;omega);refine rdy1 14 (fun K hK=>?_);refine aQ ER (by rfl) (.tmp 21) (.tmp 30) (by rfl) base v xs (by rfl) (HO.o.below HB1.o) (w1.heap.size+1) (some ⟨w1.heap.size,0,none⟩) 1 1 [(⟨⟨t,m.ti,0,ps⟩,A',c'⟩:Rm)] (by rfl) (by rfl) RW.o HXL.o (by have:=HB1.o.size;omega) ?_;intro v6 w6 ho6 hg6 iR;have HG6:=Hd (Blk.grown (HG.o.below HB1.o) hg6 HNE.o);have HR6:=Hd (eT.app (w:=w1.alloc (.cells #[.int .i64 t, .int .i64 m.ti, .int .i64 0, .slice A' n c'] 77)) (base:=base) (v:=v) (L:=L) ⟨xs,HX.o,HO.o.below HB1.o,fun x hx=>(HP.o x hx).below HB1.o⟩ (⟨⟨t,m.ti,0,ps⟩,A',c'⟩:Rm) HX.o (HO.o.below HB1.o) (fun x hx=>(HP.o x hx).below HB1.o) (by show ax EP _ base (.slice A' ps.length c') ps;rw [← HN.o];exact HOC.o) ho6 hg6);have HB6:=Hd ((HB1.o.mono (show base≤w.heap.size by omega)).grown hg6 (by have:=HB1.o.size;omega) (fun k e=>HO.o.ge k e));have HKP:=Hd (show ∀ (k:Nat) (t:TypeId) (cs:Array Value),t≠77→Blk w k t cs→Blk w6 k t cs from fun k t cs ht hk=>Blk.grown (hk.below HB1.o) hg6 (ay (HO.o.below HB1.o) (hk.below HB1.o) (fun e=>ht e.symm)));obtain ⟨A7,c7,e7,_⟩:=ho6.at;subst e7;generalize (xs ++ [(⟨⟨t,m.ti,0,ps⟩,A',c'⟩:Rm)]).length=l7 at *;refine hK.o _ _ ⟨_,HG6.o⟩ (fun hHeld=>?_);clear hK K hg6 iR ho6;refine tk hHeld 15 ?_ ?_ (tk hHeld 16 ?_ ?_ ?_);iterate 2
        rotate_left
        · intro w hSw;go_simp;first | (with_reducible rfl) | (rw [if_neg (by first | omega | (simp;omega))])
      have k28:=(HG6.o.cell 28).trans (m.c28 _);have f28:=HG6.o.free 28;have hg7:=Blk.put HG6.o 28 (.slice A7 l7 c7);rw [m.set] at hg7;have HG7:=Hd hg7;clear hg7;refine rdy1 17 (fun K hK=>?_);go_simp;refine hK.o _ _ ⟨_,HG7.o⟩ (fun hHeld=>?_);clear hK K;refine wpAnyH_done (by kernel_rfl) ?_ _;clear k28 f28;go_wp2_with fail
      go_end0
      have HBF:=HB6.o.setCell (p:=⟨g,28,none⟩) hbg (.slice A7 l7 c7);refine ⟨rfl,?_,HBF,fun k t cs ht hkg hk=>Blk.af (HKP.o k t cs ht hk) _ (by show k≠g;exact hkg)⟩;rw [HAD.o];exact ⟨⟨_,HG7.o,HR6.o.cell HG6.o (by decide) (by decide) _⟩,hbg,HE.o.rules.keep HBF (Nat.le_refl _),HE.o.items.keep HBF (Nat.le_refl _),HE.o.ok,by have:=HLL.o;rw [List.length_append,List.length_singleton];omega⟩
end Go.Proofs.YtollifnnpihfdaaGreatDoor
namespace Go.Proofs.YtollifnnpihfdaaGreatDoor
def Ah (ex:Int):ByteArray:=if ex < 0 then ⟨#[110,111]⟩ else ⟨#[121,101,115]⟩
def qp (m:Mk) (key:ByteArray):List Pr:= [txP ⟨#[99,97,108,108]⟩ (dE m.r.n).name,txP ⟨#[115,117,99,99,101,115,115]⟩ (Ah m.cx.ex),nuP ⟨#[101,120,105,116]⟩ m.cx.ex,nuP ⟨#[97,48]⟩ (m.cx.a 0),nuP ⟨#[97,49]⟩ (m.cx.a 1),nuP ⟨#[97,50]⟩ (m.cx.a 2),nuP ⟨#[97,51]⟩ (m.cx.a 3),nuP ⟨#[105,116,101,109,115]⟩ (m.is.length:Int),nuP ⟨#[112,112,105,100]⟩ (m.cx.p 1),nuP ⟨#[112,105,100]⟩ (m.cx.p 0),nuP ⟨#[97,117,105,100]⟩ (m.cx.p 6),nuP ⟨#[117,105,100]⟩ (m.cx.p 2),nuP ⟨#[103,105,100]⟩ (m.cx.p 4),nuP ⟨#[101,117,105,100]⟩ (m.cx.p 3),nuP ⟨#[101,103,105,100]⟩ (m.cx.p 5),nuP ⟨#[115,101,115]⟩ (m.cx.p 7),soP ⟨#[99,111,109,109]⟩ m.cx.comm,soP ⟨#[101,120,101]⟩ m.cx.exe,soP ⟨#[107,101,121]⟩ key]
def jD (k:Nat):ByteArray:=⟨#[97,48+UInt8.ofNat k]⟩
def uF (args:List ByteArray):List Pr:=nuP ⟨#[97,114,103,99]⟩ args.length :: (args.take 4).mapIdx (fun k s=>txP (jD k) s)
def Aj (m:Mk) (s:ByteArray):List Pr:= [txP ⟨#[104,111,115,116]⟩ s,nuP ⟨#[112,111,114,116]⟩ (m.cx.a 0)]
def BV (s:ByteArray):List Pr:= [soP ⟨#[99,119,100]⟩ s]
def oG (k:Int):ByteArray:=if k=1 then ⟨#[102,105,108,101]⟩ else if k=2 then ⟨#[100,105,114]⟩ else if k=3 then ⟨#[108,105,110,107]⟩ else ⟨#[110,111,110,101]⟩
def oH (k:Int):ByteArray:=if k=1 then ⟨#[110,111,114,109,97,108]⟩ else if k=2 then ⟨#[99,114,101,97,116,101]⟩ else if k=3 then ⟨#[100,101,108,101,116,101]⟩ else ⟨#[110,111,110,101]⟩
def ug (i:Nat) (y:Itm) (r:bE):List Pr:= [nuP ⟨#[105,116,101,109]⟩ i,txP ⟨#[110,97,109,101]⟩ r.gv,soP ⟨#[112,97,116,104]⟩ r.pa,nuP ⟨#[100,101,118]⟩ y.dev,nuP ⟨#[105,110,111,100,101]⟩ y.ino,nuP ⟨#[109,111,100,101]⟩ r.mo,nuP ⟨#[111,117,105,100]⟩ y.uid,nuP ⟨#[111,103,105,100]⟩ y.gid,txP ⟨#[107,105,110,100]⟩ (oG y.kind),txP ⟨#[114,111,108,101]⟩ (oH r.ro),nuP ⟨#[112,101,114,109]⟩ r.pe]
def BZ (m:Mk) (key:ByteArray) (args:List ByteArray) (cwd:ByteArray):List (Int×List Pr):=
 [(1300,qp m key)] ++ (if m.r.n=1 then [(1309,uF args)] else []) ++ (if m.r.n=19∧args.length=1 then [(1306,Aj m (args.headD ⟨#[]⟩))] else [])
  ++ (if m.is.length=0 then [] else [(1307,BV cwd)]) ++ m.is.mapIdx (fun i p=>(1302,ug i p.1 p.2))
def dA (m:Mk):List Rc→List (Int×List Pr)→List Rc
 | L, []=>L
 | L,x :: r=>dA m (kE m L x.1 x.2) r
def evR (m:Mk) (key:ByteArray) (args:List ByteArray) (cwd:ByteArray):List Rc:=
 let L:=dA m [] (BZ m key args cwd)
 if L= [] then [] else L ++ [⟨1320,m.ti,0, []⟩]
theorem fU (m:Mk):∀ (a b:List (Int×List Pr)) (L:List Rc),dA m L (a ++ b)=dA m (dA m L a) b
 | [],_,_=>rfl
 | x :: a,b,L=>fU m a b _
end Go.Proofs.YtollifnnpihfdaaGreatDoor
