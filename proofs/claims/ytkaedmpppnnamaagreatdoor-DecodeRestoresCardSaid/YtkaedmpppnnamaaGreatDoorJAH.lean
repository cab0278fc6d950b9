/- Values that come in, of any depth, and what else is used with it. No condition. -/
import Derived.Lib.SmallJoins
import Derived.Deep.RegionHeld3
import Derived.IntWalk
import Derived.Test.YtkaedmpppnnamaaGreatDoorHAC
set_option maxHeartbeats 400000
set_option maxRecDepth 100000
namespace Go.Proofs.YtkaedmpppnnamaaGreatDoor
open ChangeShapes WideShapes ChangeAt RowKit Joins
section
variable {H:Type} {enc:TypeId × Value->H} {w:World} {base:Nat} {spare:Nat->Bool} {held:Bool}
theorem acV {es sp:List (DataW H)} {y:DataW H} (h:y ∈ es):SizeOf.sizeOf y < SizeOf.sizeOf (DataW.slice es sp):=by
 have h2:=List.sizeOf_lt_of_mem h;simp only [DataW.slice.sizeOf_spec];omega
theorem aau {t e:TypeId} {size fuel:Nat} {cs:List Value} {x:DataW H × List MemPlace} (ht:Tryz.prog.underlying t=some (.slice e)) (hC:Tryz.prog.cellsOf e=size) (hpos:0 < size)
  (h:DataW.trod enc Tryz.prog w base spare held fuel t cs=some x) (hs:Sz t x.1) :
  ∃ (A:Option Addr) (len cap:Nat),cs = [.slice A len cap]/\len<=cap/\len*Tryz.prog.bytesOf e<=140737488351232 /\
   (len=0\/∃ b o,A=some ⟨b,o,none⟩/\b < w.heap.size/\∃ (N:Nat) (D:Nat->DataW H) (Pl:Nat->List MemPlace),∀ i,i < len->∃ cs',cs'.length=size /\
    (∀ j u,cs'[j]?=some u->w.cell? ⟨b,o+i*size+j,none⟩=some u)/\DataW.trod enc Tryz.prog w base spare held N e cs'=some (D i,Pl i)/\Sz e (D i)/\SizeOf.sizeOf (D i) < SizeOf.sizeOf x.1):=by
 rcases Go.Deep.open_slice ht h with ⟨rfl,_⟩ | ⟨a,len,cap,m,n,D,Pl,rfl,hb,hl,hm,hmm,rfl,hel⟩
 . exact ⟨none,0,0,rfl,b_ _,by simp,.inl rfl⟩
 have hlm:len<=m:=by rw [hmm];split <;> omega
 refine ⟨some a,len,cap,rfl,hl,?_,?_⟩
 .
  have:=hs.len ht;simp only [Qs,List.length_range] at this;exact Jh (P_ _ (by omega)) this
 by_cases h0:len=0
 . exact .inl h0
 right
 have hcell:∀ i,i < len->∃ cs',cs'.length=size/\(∀ j,j < size->w.cell? ((a.add (i*size)).add j)=cs'[j]?)/\DataW.trod enc Tryz.prog w base spare held n e cs'=some (D i,Pl i):=fun i hi => by
  exact zGk
 have h00:∃ u,w.cell? a=some u:=by
  exact zFc
 obtain ⟨u,hu⟩:=h00;have hsp:a.spot=none:=by
  exact zGu
 obtain ⟨b,o,sp⟩:=a;simp only at hsp;subst hsp;refine ⟨b,o,rfl,World.block_lt_of_cell? _ _ hu,n,D,Pl,fun i hi => ?_⟩;obtain ⟨cs',h1,h2,h3⟩:=hcell i hi;have hmem:D i ∈ (List.range len).map D:=Pe.2 ⟨i,by simpa using hi,rfl⟩;refine ⟨cs',h1,fun j v hv => ?_,h3,hs.elem ht hmem,acV hmem⟩;exact zEz
end
abbrev Aw:=Nat × Nat × Nat
structure fJ where
 kind:Nat
 a:Nat
 b:Nat
 c:Nat
 parts:List Aw
def aav (p:Aw):List Value:=[.int .u8 p.1,.int .u8 p.2.1,.int .u8 p.2.2]
theorem G7 (p:Aw):(aav p).length=3:=rfl
def Xd (p:Aw):Prop:=p.1 < 256/\p.2.1 < 256/\p.2.2 < 256
def ae2 (x:fJ) (vp:Value):List Value:=[.int .u8 x.kind,.int .u8 x.a,.int .u8 x.b,.int .u8 x.c,vp]
structure U4 (w:World) (B:Nat) (x:fJ) (vp:Value):Prop where
 ints:x.kind < 256/\x.a < 256/\x.b < 256/\x.c < 256
 len:x.parts.length<=46912496117077
 ins:∀ p ∈ x.parts,Xd p
 parts:Rd w B 3 vp x.parts.length (x.parts.flatMap aav)
def jR (w:World) (B:Nat) (v:Value) (xs:List fJ):Prop := ∃ c:Nat->List Value,Row w B 5 v xs.length c/\∀ (i:Nat) (h:i < xs.length),∃ vp,c i=ae2 xs[i] vp/\U4 w B xs[i] vp
theorem CS {a:Int} (h:(Lit.int .u8 a).wf=true):∃ n:Nat,a=(n:Int)/\n < 256:=by
 simp [Lit.wf,IntKind.min,IntKind.max,IntKind.bits,IntKind.signed] at h;exact ⟨a.toNat,by omega,by omega⟩
section
variable {H:Type} {enc:TypeId × Value->H} {w:World} {base:Nat} {spare:Nat->Bool} {held:Bool}
theorem ahh (N:Nat) (cs:List Value) (D:DataW H) (Q:List MemPlace) (hl:cs.length=3)
  (h:DataW.trod enc Tryz.prog w base spare held N 93 cs=some (D,Q)):∃ x:Aw,cs=aav x/\Xd x:=by
 obtain ⟨xs,n,rfl,hx,_,hxl,hg⟩:=DataW.trod_struct Tryz.underlying93 h;obtain ⟨c0,c1,c2,rfl⟩ : ∃ a b c,cs = [a,b,c]:=by
  match cs,hl with
  | [a,b,c],_ => exact ⟨a,b,c,rfl⟩
 match xs,hxl with
 | [y0,y1,y2],_ =>
  have k0:Tryz.prog.cellsOf 5=1:=by kernel_rfl
  have h0:DataW.trod enc Tryz.prog w base spare held n 5 (([c0,c1,c2].drop 0).take (Tryz.prog.cellsOf 5))=some y0:=hg 0 _ rfl;have h1:DataW.trod enc Tryz.prog w base spare held n 5 (([c0,c1,c2].drop 1).take (Tryz.prog.cellsOf 5))=some y1:=hg 1 _ rfl;have h2:DataW.trod enc Tryz.prog w base spare held n 5 (([c0,c1,c2].drop 2).take (Tryz.prog.cellsOf 5))=some y2:=hg 2 _ rfl;rw [k0] at h0 h1 h2;obtain ⟨n0,e0,_,w0⟩:=DataW.trod_int Tryz.underlying5 h0;obtain ⟨n1,e1,_,w1⟩:=DataW.trod_int Tryz.underlying5 h1;obtain ⟨n2,e2,_,w2⟩:=DataW.trod_int Tryz.underlying5 h2;obtain ⟨m0,rfl,b0⟩:=CS w0;obtain ⟨m1,rfl,b1⟩:=CS w1;obtain ⟨m2,rfl,b2⟩:=CS w2;simp only [List.drop,List.take,List.cons.injEq,and_true] at e0 e1 e2;subst e0 e1 e2;exact ⟨(m0,m1,m2),rfl,b0,b1,b2⟩
theorem ajr (N:Nat) (cs:List Value) (D:DataW H) (Q:List MemPlace) (hl:cs.length=5)
  (h:DataW.trod enc Tryz.prog w base spare held N 80 cs=some (D,Q)) (hs:Sz 80 D):∃ (x:fJ) (vp:Value),cs=ae2 x vp/\U4 w w.heap.size x vp:=by
 obtain ⟨xs,n,rfl,hx,_,hxl,hg⟩:=DataW.trod_struct Tryz.underlying80 h;obtain ⟨c0,c1,c2,c3,c4,rfl⟩ : ∃ a b c d e,cs = [a,b,c,d,e]:=by
  match cs,hl with
  | [a,b,c,d,e],_ => exact ⟨a,b,c,d,e,rfl⟩
 match xs,hxl with
 | [y0,y1,y2,y3,y4],_ =>
  injection hx with hx1 hx2;have k0:Tryz.prog.cellsOf 5=1:=by kernel_rfl
  have k4:Tryz.prog.cellsOf 78=1:=by kernel_rfl
  have h0:DataW.trod enc Tryz.prog w base spare held n 5 (([c0,c1,c2,c3,c4].drop 0).take (Tryz.prog.cellsOf 5))=some y0:=hg 0 _ rfl;have h1:DataW.trod enc Tryz.prog w base spare held n 5 (([c0,c1,c2,c3,c4].drop 1).take (Tryz.prog.cellsOf 5))=some y1:=hg 1 _ rfl;have h2:DataW.trod enc Tryz.prog w base spare held n 5 (([c0,c1,c2,c3,c4].drop 2).take (Tryz.prog.cellsOf 5))=some y2:=hg 2 _ rfl;have h3:DataW.trod enc Tryz.prog w base spare held n 5 (([c0,c1,c2,c3,c4].drop 3).take (Tryz.prog.cellsOf 5))=some y3:=hg 3 _ rfl;have h4:DataW.trod enc Tryz.prog w base spare held n 78 (([c0,c1,c2,c3,c4].drop 4).take (Tryz.prog.cellsOf 78))=some y4:=hg 4 _ rfl;rw [k0] at h0 h1 h2 h3;rw [k4] at h4;obtain ⟨n0,e0,_,w0⟩:=DataW.trod_int Tryz.underlying5 h0;obtain ⟨n1,e1,_,w1⟩:=DataW.trod_int Tryz.underlying5 h1;obtain ⟨n2,e2,_,w2⟩:=DataW.trod_int Tryz.underlying5 h2;obtain ⟨n3,e3,_,w3⟩:=DataW.trod_int Tryz.underlying5 h3;obtain ⟨m0,rfl,b0⟩:=CS w0;obtain ⟨m1,rfl,b1⟩:=CS w1;obtain ⟨m2,rfl,b2⟩:=CS w2;obtain ⟨m3,rfl,b3⟩:=CS w3;subst hx1;have sz4:=Sz.field hs Tryz.underlying80 (i:=4) rfl rfl;obtain ⟨vp,ps,ep,lp,gp,rp⟩:=open_list Tryz.underlying78 (size:=3) (by kernel_rfl) (by decide) G7 h4 sz4 (good:=Xd) (fun N cs' D Q hl ht _ => ahh N cs' D Q hl ht);have hbb:Tryz.prog.bytesOf 93=3:=by kernel_rfl
  rw [hbb] at lp;simp only [List.drop,List.take,List.cons.injEq,and_true] at e0 e1 e2 e3 ep;subst e0 e1 e2 e3 ep;exact ⟨⟨m0,m1,m2,m3,ps⟩,_,rfl,⟨b0,b1,b2,b3⟩,by show ps.length<=_;omega,gp,rp⟩
theorem ahi {fuel:Nat} {cs:List Value} {x:DataW H × List MemPlace} (h:DataW.trod enc Tryz.prog w base spare held fuel 22 cs=some x) (hs:Sz 22 x.1) :
  ∃ (v:Value) (xs:List fJ),cs = [v]/\xs.length<=4398046510976/\jR w w.heap.size v xs:=by
 obtain ⟨A,len,cap,rfl,hl,hb,hrow⟩:=aau Tryz.underlying22 (size:=5) (by kernel_rfl) (by decide) h hs;have hbb:Tryz.prog.bytesOf 80=32:=by kernel_rfl
 rw [hbb] at hb;have hlen:len<=4398046510976:=by omega
 rcases hrow with rfl | ⟨b,o,rfl,hlt,N,D,Pl,hi⟩
 . exact ⟨_,[],rfl,by simp,fun _ => [],⟨A,cap,rfl,hl,.inl rfl⟩,fun i h => by simp at h⟩
 have hex:∀ i:Nat,∃ p:fJ × List Value,i < len->(∀ j u,p.2[j]?=some u->w.cell? ⟨b,o+i*5+j,none⟩=some u)/\∃ vp,p.2=ae2 p.1 vp/\U4 w w.heap.size p.1 vp:=by
  intro i;by_cases h0:i < len
  .
   obtain ⟨cs',h1,h2,h3,h4,_⟩:=hi i h0;obtain ⟨y,vp,hy,hn⟩:=ajr N cs' (D i) (Pl i) h1 h3 h4;exact ⟨(y,cs'),fun _ => ⟨h2,vp,hy,hn⟩⟩
  exact ⟨(⟨0,0,0,0,[]⟩,[]),fun h => absurd h h0⟩
 obtain ⟨F,hF⟩:=Classical.axiomOfChoice hex;refine ⟨_,(List.range len).map (fun i => (F i).1),rfl,by simpa using hlen,fun i => (F i).2,⟨_,cap,by simp,by simpa using hl,.inr ⟨b,o,rfl,hlt,fun i h0 => (hF i (by simpa using h0)).1⟩⟩,fun i h0 => ?_⟩;have h1:i < len:=by simpa using h0
 simpa using (hF i h1).2
end
end Go.Proofs.YtkaedmpppnnamaaGreatDoor
namespace Go.Proofs.YtkaedmpppnnamaaGreatDoor
open ChangeShapes WideShapes ChangeAt RowKit
def ai5 (x:fJ):Nat:=1+x.kind % 9
theorem vX (x:fJ):1<=(ai5 x:Int)/\(ai5 x:Int)<=9:=by unfold ai5;omega
theorem jR.keep {w w':World} {B B':Nat} {v:Value} {xs:List fJ} (h:jR w B v xs) (hk:∀ p:Addr,p.block < B->w'.cell? p=w.cell? p) (hB:B<=B'):jR w' B' v xs:=by
 obtain ⟨c,h1,h2⟩:=h;refine ⟨c,(h1.keep hk).mono hB,fun i hi => ?_⟩;obtain ⟨vp,e,hn⟩:=h2 i hi;exact ⟨vp,e,hn.ints,hn.len,hn.ins,(hn.parts.keep hk).mono hB⟩
theorem jR.on {w w':World} {v:Value} {xs:List fJ} (h:jR w w.heap.size v xs) (hb:Below w.heap.size w w'):jR w' w'.heap.size v xs:=h.keep (fun _ hp => hb.cell hp) hb.size
theorem jR.form {w:World} {B:Nat} {v:Value} {xs:List fJ} (h:jR w B v xs):∃ A c,v = .slice A xs.length c/\xs.length<=c:=by
 exact zFw
def ajs (w:World) (b o:Nat) (x:fJ) (vp:Value):Prop :=
 w.cell? ⟨b,o,none⟩=some (.int .u8 x.kind)/\w.cell? ⟨b,o+1,none⟩=some (.int .u8 x.a)/\w.cell? ⟨b,o+2,none⟩=some (.int .u8 x.b)/\w.cell? ⟨b,o+3,none⟩=some (.int .u8 x.c)/\w.cell? ⟨b,o+4,none⟩=some vp
theorem jR.elem {w:World} {B n cap:Nat} {A:Option Addr} {xs:List fJ} (h:jR w B (.slice A n cap) xs) (hpos:0 < xs.length):∃ b o,A=some ⟨b,o,none⟩/\b < B/\∀ k (hk:k < xs.length),∃ vp,ajs w b (o+k*5) xs[k] vp/\U4 w B xs[k] vp:=by
 obtain ⟨c,⟨A',c',hv,hc,h2⟩,h3⟩:=h;injection hv with h4 h5 h6;subst h4;rcases h2 with h2 | ⟨b,o,hA,hb,hcell⟩
 . omega
 refine ⟨b,o,hA,hb,fun k hk => ?_⟩;obtain ⟨vp,hcs,hm⟩:=h3 k hk;have hc:=hcell k hk;rw [hcs] at hc;exact ⟨vp,⟨hc 0 _ rfl,hc 1 _ rfl,hc 2 _ rfl,hc 3 _ rfl,hc 4 _ rfl⟩,hm⟩
theorem qp (xs:List fJ) (vn:Value) (i:Nat) (w:World) (hi:i < xs.length) (hr:jR w w.heap.size vn xs) :
  Calls Tryz.prog 33 #[.agg #[vn],.int .i64 i] w (RT w (.int .i64 (ai5 xs[i] : Nat))):=by
 obtain ⟨A,c,rfl,hc⟩:=hr.form;have h01:=(g_ w.heap.size w).alloc (b_ _) (.cells #[.slice A xs.length c] 24);obtain ⟨b,o,rfl,hb,hel⟩:=hr.elem (by omega);obtain ⟨vp,hcs,hn⟩:=hel i hi;have c0:=hcs.1;have hk:=hn.ints.1;have hl:=hn.len;have hi1:(i:Int) < xs.length:=by omega
 have Hk:Hid (ai5 xs[i]=1+xs[i].kind % 9):=rfl;clear hcs hn hel hr hl;generalize xs[i]=x at *;generalize x.kind=q at *;generalize ai5 x=r at *;have hq:(q:Int) < 256:=by omega
 have hm:0<=(q:Int) % 9/\(q:Int) % 9<=8:=by omega
 go_enter Tryz.func33,Tryz.ntmps33
 go_wp2_with fail;go_ret;exact ⟨bC (by rw [Hk.out];push_cast;rfl),h01⟩
def ql (k:Int):Bool:=decide (k=4\/k=5\/k=6)
theorem zEt {p:Prop} (h:p:=by
 go_enter Tryz.func34,Tryz.ntmps34
 go_wp2_with fail;go_ret;exact ⟨au Hr.out.symm,rfl⟩):p:=h
theorem uo (k:Int) (w:World):Calls Tryz.prog 34 #[.int .i64 k] w fun e w' => e = .returned (.bool (ql k))/\w=w':=by
 have Hn:Hid (ql k=decide (k=4\/k=5\/k=6)):=rfl;generalize ql k=r at *;by_cases h4:k=4
 .
  have t4:(k == 4)=true:=by simp [h4]
  have Hr:Hid (r=true):=by show _=_;rw [Hn.out];simp [h4]
  clear h4;exact zEt
 have t4:(k == 4)=false:=r_.2 h4;by_cases h5:k=5
 .
  have t5:(k == 5)=true:=by simp [h5]
  have Hr:Hid (r=true):=by show _=_;rw [Hn.out];simp [h5]
  clear h4 h5;exact zEt
 have t5:(k == 5)=false:=r_.2 h5;by_cases h6:k=6
 .
  have t6:(k == 6)=true:=by simp [h6]
  have Hr:Hid (r=true):=by show _=_;rw [Hn.out];simp [h6]
  clear h4 h5 h6;exact zEt
 have t6:(k == 6)=false:=r_.2 h6;have Hr:Hid (r=false):=by show _=_;rw [Hn.out];simp [h4,h5,h6]
 clear h4 h5 h6;exact zEt
abbrev ae3 (x:fJ) (vp:Value):Value:=.agg #[.int .u8 x.kind,.int .u8 x.a,.int .u8 x.b,.int .u8 x.c,vp]
def vY (x:fJ):Int:=(x.a:Int) % 7 - 3
def tX (x:fJ):Int:=vY x+(x.b:Int) % 6
theorem I7 (x:fJ) : -3<=vY x/\vY x<=3:=by unfold vY;omega
theorem Sl (x:fJ) (vp:Value) (w:World) (hn:x.a < 256):Calls Tryz.prog 35 #[ae3 x vp] w (RT w (.int .i64 (vY x))):=by
 have h01:=fun o => (g_ w.heap.size w).alloc (b_ _) o;have Hl:Hid (vY x=(x.a:Int) % 7 - 3):=rfl;have hq:(x.a:Int) < 256:=by omega
 have hm:0<=(x.a:Int) % 7/\(x.a:Int) % 7<=6:=by omega
 go_enter Tryz.func35,Tryz.ntmps35
 go_wp2_with fail;go_ret;exact ⟨bC (by rw [Hl.out]),h01 _⟩
theorem Vw (x:fJ) (vp:Value) (w:World) (hn:x.a < 256) (hb:x.b < 256):Calls Tryz.prog 36 #[ae3 x vp] w (RT w (.int .i64 (tX x))):=by
 have h01:=fun o => (g_ w.heap.size w).alloc (b_ _) o;have Hl:Hid (tX x=vY x+(x.b:Int) % 6):=rfl;have hr:=I7 x;have hq:(x.b:Int) < 256:=by omega
 have hm:0<=(x.b:Int) % 6/\(x.b:Int) % 6<=5:=by omega
 have HL:=hiQ (fun W => Sl x vp W hn);have hX:=Has.made w 80 #[.int .u8 x.kind,.int .u8 x.a,.int .u8 x.b,.int .u8 x.c,vp];generalize vY x=lo at *;have hX1:=hX;go_enter Tryz.func36,Tryz.ntmps36
 go_wp2_with fail;have hbw:=h01 (.cells #[.int .u8 x.kind,.int .u8 x.a,.int .u8 x.b,.int .u8 x.c,vp] 80);generalize w.alloc (.cells #[.int .u8 x.kind,.int .u8 x.a,.int .u8 x.b,.int .u8 x.c,vp] 80)=w1 at *;have c0:=hX1.cell 0;have c1:=hX1.cell 1;have c2:=hX1.cell 2;have c3:=hX1.cell 3;have c4:=hX1.cell 4;have hz:=hX1.here;simp only [qI] at c0 c1 c2 c3 c4;clear hX hX1;go_region_held3 (fun w' => w'.cell? ⟨w.heap.size,0,none⟩=some (.int .u8 x.kind)/\w'.cell? ⟨w.heap.size,1,none⟩=some (.int .u8 x.a)/\w'.cell? ⟨w.heap.size,2,none⟩=some (.int .u8 x.b)/\w'.cell? ⟨w.heap.size,3,none⟩=some (.int .u8 x.c)/\w'.cell? ⟨w.heap.size,4,none⟩=some vp) (first | (go_keep;done) | exact ⟨p0,p1,p2,p3,p4⟩)
  (first
   | (go_at_call 35;(with_reducible refine (HL.out _).mono ?_);rintro e wn ⟨rfl,hbn⟩;have qG:Below w1.heap.size w1 wn:=((g_ w1.heap.size w1).drew).trans hbn;have p0:=(qG.cell (p:=⟨w.heap.size,0,none⟩) hz).trans c0;have p1:=(qG.cell (p:=⟨w.heap.size,1,none⟩) hz).trans c1;have p2:=(qG.cell (p:=⟨w.heap.size,2,none⟩) hz).trans c2;have p3:=(qG.cell (p:=⟨w.heap.size,3,none⟩) hz).trans c3;have p4:=(qG.cell (p:=⟨w.heap.size,4,none⟩) hz).trans c4))
 all_goals
  go_wp2_with fail;go_ret;exact ⟨bC (by rw [Hl.out,O_ (by omega),E_ ((x.b:Int) % 6) (by omega),E_ _ (by omega)]),hbw.trans (qG.mono hbw.size)⟩
theorem Ae (k:Int) (w:World):Calls Tryz.prog 89 #[.int .i64 k] w fun e w' => e = .returned (.bool (decide (7<=k)))/\w=w':=by
 go_enter Tryz.func89,Tryz.ntmps89
 go_wp2_with fail;go_ret;exact ⟨rfl,rfl⟩
theorem zGn {p:Prop} (h:p:=by
 go_enter Tryz.func61,Tryz.ntmps61
 go_wp2_with fail;go_ret;exact ⟨au (by first | (simp;done) | (simp;omega)),rfl⟩):p:=h
theorem D8 (k:Int) (w:World):Calls Tryz.prog 61 #[.int .i64 k] w fun e w' => e = .returned (.bool (decide (1<=k) && decide (k<=4)))/\w=w':=by
 by_cases h1:1<=k
 .
  have d1:decide (1<=k)=true:=n_ h1;by_cases h2:k<=4
  .
   have d2:decide (k<=4)=true:=n_ h2;go_enter Tryz.func61,Tryz.ntmps61
   go_wp2_with fail;go_ret;exact ⟨au (by simp [h1,h2]),rfl⟩
  have d2:decide (k<=4)=false:=f_ h2;exact zGn
 have d1:decide (1<=k)=false:=f_ h1;exact zGn
def uF (p:Nat->Bool):Nat->Nat->Option Nat
 | 0,_ => none
 | f+1,k => if p k then some k else uF p f (k+1)
theorem Ip {p:Nat->Bool} : ∀ (f k j:Nat),uF p f k=some j->k<=j/\j < k+f/\p j=true:=by
 intro f
 induction f with
 | zero => intro k j h;simp [uF] at h
 | succ f ih =>
  intro k j h;rw [uF] at h;split at h
  . next hp => injection h with h;subst h;exact ⟨b_ _,by omega,hp⟩
  obtain ⟨h1,h2,h3⟩:=ih _ _ h;exact ⟨by omega,by omega,h3⟩
def an8 (xs:List fJ) (i:Nat):Nat:=match xs[i]? with | some x => ai5 x | none => 0
theorem CU (xs:List fJ) (i:Nat) (h:i < xs.length):an8 xs i=ai5 xs[i]:=by
 unfold an8;rw [m_ h]
def vS (k:Nat):Bool:=decide (7<=k)
def wI (k:Nat):Bool:=decide (1<=k) && decide (k<=4)
def ajK (o:Option Nat):Int:=match o with | some k => k | none => -1
def uN (xs:List fJ) (i code:Nat):Option Nat :=
 if vS (an8 xs (code % xs.length)) || decide (code % xs.length < i) then some (code % xs.length)
 else if 0 < i then some (code % xs.length % i)
 else uF (fun k => vS (an8 xs k)) xs.length 0
def pO (xs:List fJ) (code k:Nat):Nat:=(code+k) % xs.length
def vw (xs:List fJ) (code:Nat):Option Nat:=(uF (fun k => wI (an8 xs (pO xs code k))) xs.length 0).map (pO xs code)
theorem Td (xs:List fJ) (code k:Nat) (h:vw xs code=some k):k < xs.length/\wI (an8 xs k)=true:=by
 unfold vw at h;cases h2:uF (fun k => wI (an8 xs (pO xs code k))) xs.length 0 with
 | none => rw [h2] at h;simp at h
 | some j =>
  rw [h2] at h;obtain ⟨h3,h4,h5⟩:=Ip _ _ _ h2;simp at h;subst h;exact ⟨Qo _ (by omega),h5⟩
def idB (x:fJ) (i:Nat):Bool:=decide (x.a / 2 ^ i % 2=1)
def uU (x:fJ):Nat->List Int
 | 0 => []
 | k+1 => uU x k ++ (if idB x k then [((k+1:Nat):Int)] else [])
def qK (x:fJ):List Int:=if (uU x 6).isEmpty then [1] else uU x 6
theorem Xr (x:fJ) (k:Nat):(uU x k).length<=k:=by
 induction k with
 | zero => simp [uU]
 | succ k ih => rw [uU,h_];split <;> simp <;> omega
theorem Xt (x:fJ) (k:Nat):∀ a ∈ uU x k,1<=a/\a<=k:=by
 induction k with
 | zero => simp [uU]
 | succ k ih =>
  intro a ha;rw [uU] at ha;rcases Dp.1 ha with h | h
  . have:=ih a h;omega
  split at h
  . simp at h;omega
  simp at h
theorem zC (x:fJ):1<=(qK x).length/\(qK x).length<=6:=by
 unfold qK;split
 . simp
 next h =>
 have:=Xr x 6;refine ⟨?_,this⟩;cases h2:uU x 6 with
 | nil => rw [h2] at h;simp at h
 | cons a r => simp
theorem Fv (x:fJ):∀ a ∈ qK x,1<=a/\a<=6:=by
 unfold qK;split
 . simp
 exact Xt x 6
def tN (c:Nat) (k:Int):List UInt8:=[UInt8.ofNat c,UInt8.ofNat (97+k).toNat]
def lN (i:Nat):List UInt8:=[UInt8.ofNat (65+i)]
def aT (xs:List fJ) (t code:Nat):Val × Bool :=
 match xs[t]? with
 | none => (jm,false)
 | some x =>
  let k:Nat:=if ai5 x=8/\vw xs 0=none then 7 else ai5 x
  if k=5\/k=6 then (jm,false)
  else (.mk k (decide (k=1/\code % 2=1)) (if k=2 then vY x+(code:Int) % (tX x - vY x+1) else 0) (if k=3/\0 < x.a % 4/\code % 2=1 then [97] else []) (if k=4 then (qK x).getD (code % (qK x).length) 0 else 0) [] [] [],true)
def partOf (xs:List fJ) (i:Nat) (record:Bool) (id:Nat) (p:Aw):Option Mem :=
 match uN xs i p.2.1 with
 | none => none
 | some t =>
  if 1+p.1 % 12=id then
   let d:=if record && decide (2<=p.2.2 % 4) then aT xs t (p.2.2 / 4) else (jm,false)
   some { id:=id,name:=tN 109 id,ty:=t,akb:=record && decide (p.2.2 % 4=1),eG:=d.2,dflt:=d.1 }
  else none
def tK (xs:List fJ) (i:Nat) (record:Bool) (ps:List Aw) (id:Nat):List Mem:=(ps.findSome? (partOf xs i record id)).toList
def lH (xs:List fJ) (i:Nat) (record:Bool) (ps:List Aw):Nat->List Mem
 | 0 => []
 | k+1 => lH xs i record ps k ++ tK xs i record ps (k+1)
def oH (xs:List fJ) (i:Nat) (record:Bool) (ps:List Aw):List Mem:=lH xs i record ps 12
def iM:ay:={ kind:=0,name:=[],low:=0,high:=0,max:=0,syms:=[],ah:=[],key:=0,elem:=0,opn:=false }
def iL (xs:List fJ) (i:Nat) (x:fJ):ay :=
 let k:=ai5 x
 let nm:=if ql k then lN i else []
 if k=2 then { iM with kind:=2,low:=vY x,high:=tX x }
 else if k=3 then { iM with kind:=3,max:=((x.a % 4:Nat):Int) }
 else if k=4 then { iM with kind:=4,name:=nm,opn:=decide (x.b % 2=1),syms:=(qK x).map fun a => (a,tN 115 a) }
 else if k=5 then { iM with kind:=5,name:=nm,ah:=oH xs i true x.parts }
 else if k=6 then (if (oH xs i false x.parts).isEmpty then { iM with kind:=5,name:=nm } else { iM with kind:=6,name:=nm,opn:=decide (x.b % 2=1),ah:=oH xs i false x.parts })
 else if k=7 then { iM with kind:=7,max:=((x.a % 4:Nat):Int),elem:=((x.c % xs.length:Nat):Int) }
 else if k=8 then (match vw xs x.b with
  | some j => { iM with kind:=8,max:=((x.a % 4:Nat):Int),key:=j,elem:=((x.c % xs.length:Nat):Int) }
  | none => { iM with kind:=7,max:=((x.a % 4:Nat):Int),elem:=((x.c % xs.length:Nat):Int) })
 else if k=9 then { iM with kind:=9,elem:=((x.c % xs.length:Nat):Int) }
 else { iM with kind:=1 }
def jw (xs:List fJ):List ay:=xs.mapIdx (iL xs)
def Vu (xs:List fJ):Bool:=decide (1<=xs.length) && decide (xs.length<=5)
