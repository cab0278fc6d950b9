/- Values as trees, and how memory reads as one, and what else is used with it. No condition. -/
import Derived.Test.YtkaedmpppnnamaaGreatDoorHAA
import Derived.Laws.StructEq
import Derived.StillTailTactics
set_option maxHeartbeats 1600000
set_option maxRecDepth 100000
namespace Go.Proofs.YtkaedmpppnnamaaGreatDoor
open ChangeShapes WideShapes ChangeAt RowKit
abbrev Raw:=Int × List UInt8
inductive Val where
 | mk (kind:Int) (bool:Bool) (num:Int) (str:List UInt8) (id:Int) (keys items:List Val) (rest:List Raw):Val
namespace Val
def kind:Val->Int | .mk k _ _ _ _ _ _ _ => k
def bool:Val->Bool | .mk _ b _ _ _ _ _ _ => b
def num:Val->Int | .mk _ _ n _ _ _ _ _ => n
def str:Val->List UInt8 | .mk _ _ _ s _ _ _ _ => s
def id:Val->Int | .mk _ _ _ _ i _ _ _ => i
def keys:Val->List Val | .mk _ _ _ _ _ ks _ _ => ks
def items:Val->List Val | .mk _ _ _ _ _ _ is _ => is
def rest:Val->List Raw | .mk _ _ _ _ _ _ _ rs => rs
end Val
def jm:Val:=.mk 0 false 0 [] 0 [] [] []
mutual
def nodes:Val->Nat
 | .mk _ _ _ _ _ ks is _ => lT ks+lT is+1
def lT:List Val->Nat
 | [] => 0
 | x :: r => nodes x+lT r
end
mutual
def depth:Val->Nat
 | .mk _ _ _ _ _ ks is _ => max (Iz ks) (Iz is)+1
def Iz:List Val->Nat
 | [] => 0
 | x :: r => max (depth x) (Iz r)
end
theorem zJ (v:Val):1<=nodes v:=by cases v;rw [nodes];omega
theorem tY (l:List Val) (x:Val) (h:x ∈ l):nodes x<=lT l:=by
 induction l with
 | nil => simp at h
 | cons y r ih =>
  rw [lT];rcases N_.1 h with rfl | h
  . omega
  have:=ih h;omega
theorem ZH (l:List Val):l.length<=lT l:=by
 induction l with
 | nil => simp
 | cons y r ih => rw [lT,z_];have:=zJ y;omega
theorem ard (a b:List Val):lT (a ++ b)=lT a+lT b:=by
 induction a with
 | nil => simp [lT]
 | cons y r ih => rw [Qu,lT,lT,ih];omega
mutual
theorem X0:∀ v:Val,depth v<=nodes v
 | .mk _ _ _ _ _ ks is _ => by
  rw [depth,nodes];have h1:=FD ks;have h2:=FD is;omega
theorem FD:∀ l:List Val,Iz l<=lT l
 | [] => by simp [Iz]
 | x :: r => by
  rw [Iz,lT];have h1:=X0 x;have h2:=FD r;omega
end
def Kw (r:Raw):List Value:=[.int .i64 r.1,.string ⟨r.2.toArray⟩]
theorem Jl (r:Raw):(Kw r).length=2:=rfl
def jO (rs:List Raw):List Value:=rs.flatMap Kw
def yR (r:Raw):Prop:=I64 r.1/\r.2.length<=140737488351232
def Row (w:World) (B size:Nat) (v:Value) (n:Nat) (c:Nat->List Value):Prop :=
 ∃ A cap,v = .slice A n cap/\n<=cap/\(n=0\/∃ b o,A=some ⟨b,o,none⟩/\b < B/\∀ i,i < n->∀ j u,(c i)[j]?=some u->w.cell? ⟨b,o+i*size+j,none⟩=some u)
section
variable {w w':World} {B B' size n:Nat} {v:Value} {c:Nat->List Value}
theorem Row.keep (h:Row w B size v n c) (hk:∀ p:Addr,p.block < B->w'.cell? p=w.cell? p):Row w' B size v n c:=by
 obtain ⟨A,cap,hv,hc,h2⟩:=h;refine ⟨A,cap,hv,hc,?_⟩;rcases h2 with h2 | ⟨b,o,hA,hb,hcell⟩
 . exact .inl h2
 exact .inr ⟨b,o,hA,hb,fun i hi j u hu => (hk _ hb).trans (hcell i hi j u hu)⟩
theorem Row.mono (h:Row w B size v n c) (hB:B<=B'):Row w B' size v n c:=by
 obtain ⟨A,cap,hv,hc,h2⟩:=h;refine ⟨A,cap,hv,hc,?_⟩;exact zGv
end
inductive wJ (w:World) (B:Nat):Val->List Value->Prop
 | mk (k:Int) (b:Bool) (n:Int) (s:List UInt8) (id:Int) (ks is:List Val) (rs:List Raw) (vk vi vr:Value) (ck ci:Nat->List Value)
   (hn:I64 k/\I64 n/\I64 id) (hs:s.length<=140737488351232) (hl:ks.length<=1172812402926/\is.length<=1172812402926/\rs.length<=5864062014634) (gy:∀ r ∈ rs,yR r)
   (hk:Row w B 8 vk ks.length ck) (hkr:∀ (i:Nat) (h:i < ks.length),wJ w B ks[i] (ck i))
   (hi:Row w B 8 vi is.length ci) (hir:∀ (i:Nat) (h:i < is.length),wJ w B is[i] (ci i))
   (hr:Rd w B 2 vr rs.length (jO rs)):wJ w B (.mk k b n s id ks is rs) [.int .i64 k,.bool b,.int .i64 n,.string ⟨s.toArray⟩,.int .i64 id,vk,vi,vr]
def qF (w:World) (B:Nat) (v:Value) (xs:List Val):Prop := ∃ c:Nat->List Value,Row w B 8 v xs.length c/\∀ (i:Nat) (h:i < xs.length),wJ w B xs[i] (c i)
theorem wJ.keep {w w':World} {B B':Nat} {v:Val} {cs:List Value} (h:wJ w B v cs) (hk:∀ p:Addr,p.block < B->w'.cell? p=w.cell? p) (hB:B<=B'):wJ w' B' v cs:=by
 induction h with
 | mk k b n s id ks is rs vk vi vr ck ci hn hs hl gy h1 _ h2 _ h3 ih1 ih2 =>
  exact .mk k b n s id ks is rs vk vi vr ck ci hn hs hl gy ((h1.keep hk).mono hB) ih1 ((h2.keep hk).mono hB) ih2 ((h3.keep hk).mono hB)
theorem wJ.on {w w':World} {v:Val} {cs:List Value} (h:wJ w w.heap.size v cs) (hb:Below w.heap.size w w'):wJ w' w'.heap.size v cs:=h.keep (fun _ hp => hb.cell hp) hb.size
theorem zHc {p:Prop} (h:p:=by
 obtain ⟨c,h1,h2⟩:=h;exact ⟨c,(h1.keep hk).mono hB,fun i hi => (h2 i hi).keep hk hB⟩):p:=h
theorem qF.keep {w w':World} {B B':Nat} {v:Value} {xs:List Val} (h:qF w B v xs) (hk:∀ p:Addr,p.block < B->w'.cell? p=w.cell? p) (hB:B<=B'):qF w' B' v xs:=by
 exact zHc
theorem qF.on {w w':World} {v:Value} {xs:List Val} (h:qF w w.heap.size v xs) (hb:Below w.heap.size w w'):qF w' w'.heap.size v xs:=h.keep (fun _ hp => hb.cell hp) hb.size
theorem zFw {p:Prop} (h:p:=by
 obtain ⟨_,⟨A,c,h1,h2,_⟩,_⟩:=h;exact ⟨A,c,h1,h2⟩):p:=h
theorem qF.form {w:World} {B:Nat} {v:Value} {xs:List Val} (h:qF w B v xs):∃ A c,v = .slice A xs.length c/\xs.length<=c:=by
 exact zFw
theorem qF.at_ {w:World} {B n cap:Nat} {A:Option Addr} {xs:List Val} (h:qF w B (.slice A n cap) xs) (hpos:0 < xs.length):∃ b o,A=some ⟨b,o,none⟩/\b < B/\∀ k (hk:k < xs.length),∃ cs,(∀ j u,cs[j]?=some u->w.cell? ⟨b,o+k*8+j,none⟩=some u)/\wJ w B xs[k] cs:=by
 obtain ⟨c,⟨A',c',hv,hc,h2⟩,h3⟩:=h;injection hv with h4 h5 h6;subst h4;rcases h2 with h2 | ⟨b,o,hA,hb,hcell⟩
 . omega
 exact ⟨b,o,hA,hb,fun k hk => ⟨c k,hcell k hk,h3 k hk⟩⟩
def Cells8 (w:World) (b o:Nat) (x:Val) (vk vi vr:Value):Prop :=
 w.cell? ⟨b,o,none⟩=some (.int .i64 x.kind)/\w.cell? ⟨b,o+1,none⟩=some (.bool x.bool)/\w.cell? ⟨b,o+2,none⟩=some (.int .i64 x.num)/\w.cell? ⟨b,o+3,none⟩=some (.string ⟨x.str.toArray⟩) /\
 w.cell? ⟨b,o+4,none⟩=some (.int .i64 x.id)/\w.cell? ⟨b,o+5,none⟩=some vk/\w.cell? ⟨b,o+6,none⟩=some vi/\w.cell? ⟨b,o+7,none⟩=some vr
def oD (x:Val) (vk vi vr:Value):List Value:=[.int .i64 x.kind,.bool x.bool,.int .i64 x.num,.string ⟨x.str.toArray⟩,.int .i64 x.id,vk,vi,vr]
structure ValAt (w:World) (B:Nat) (x:Val) (vk vi vr:Value):Prop where
 ints:I64 x.kind/\I64 x.num/\I64 x.id
 AL:x.str.length<=140737488351232
 FH:x.keys.length<=1172812402926/\x.items.length<=1172812402926/\x.rest.length<=5864062014634
 Ie:∀ r ∈ x.rest,yR r
 keys:qF w B vk x.keys
 items:qF w B vi x.items
 rest:Rd w B 2 vr x.rest.length (jO x.rest)
theorem ValAt.lens {w:World} {B:Nat} {x:Val} {vk vi vr:Value} (h:ValAt w B x vk vi vr):x.keys.length<=140737488351232/\x.items.length<=140737488351232/\x.rest.length<=140737488351232:=by have:=h.FH;omega
theorem zFy {p:Prop} (h:p:=by
 cases h with
 | mk k b n s id ks is rs vk vi vr ck ci hn hs hl gy h1 h2 h3 h4 h5 => exact ⟨vk,vi,vr,rfl,hn,hs,hl,gy,⟨ck,h1,h2⟩,⟨ci,h3,h4⟩,h5⟩):p:=h
theorem wJ.inv {w:World} {B:Nat} {x:Val} {cs:List Value} (h:wJ w B x cs):∃ vk vi vr,cs=oD x vk vi vr/\ValAt w B x vk vi vr:=by
 exact zFy
theorem ValAt.forms {w:World} {B:Nat} {x:Val} {vk vi vr:Value} (h:ValAt w B x vk vi vr):∃ A1 c1 A2 c2 A3 c3,vk = .slice A1 x.keys.length c1/\vi = .slice A2 x.items.length c2/\vr = .slice A3 x.rest.length c3/\x.keys.length<=c1/\x.items.length<=c2/\x.rest.length<=c3:=by
 obtain ⟨A1,c1,e1,h1⟩:=h.keys.form;obtain ⟨A2,c2,e2,h2⟩:=h.items.form;obtain ⟨A3,c3,e3,h3⟩:=h.rest.form;exact ⟨A1,c1,A2,c2,A3,c3,e1,e2,e3,h1,h2,h3⟩
theorem zGf {p:Prop} (h:p:=by
 obtain ⟨hn,hs,hl,gy,⟨ck,h1,h2⟩,⟨ci,h3,h4⟩,h5⟩:=h;cases x;exact .mk _ _ _ _ _ _ _ _ vk vi vr ck ci hn hs hl gy h1 h2 h3 h4 h5):p:=h
theorem ValAt.rd {w:World} {B:Nat} {x:Val} {vk vi vr:Value} (h:ValAt w B x vk vi vr):wJ w B x (oD x vk vi vr):=by
 exact zGf
theorem ValAt.on {w w':World} {x:Val} {vk vi vr:Value} (h:ValAt w w.heap.size x vk vi vr) (hb:Below w.heap.size w w'):ValAt w' w'.heap.size x vk vi vr :=
 ⟨h.ints,h.AL,h.FH,h.Ie,h.keys.on hb,h.items.on hb,(h.rest.below hb).mono hb.size⟩
theorem qF.elem {w:World} {B n cap:Nat} {A:Option Addr} {xs:List Val} (h:qF w B (.slice A n cap) xs) (hpos:0 < xs.length):∃ b o,A=some ⟨b,o,none⟩/\b < B/\∀ k (hk:k < xs.length),∃ vk vi vr,Cells8 w b (o+k*8) xs[k] vk vi vr/\ValAt w B xs[k] vk vi vr:=by
 obtain ⟨b,o,h1,h2,h3⟩:=h.at_ hpos;refine ⟨b,o,h1,h2,fun k hk => ?_⟩;obtain ⟨cs,hc,hr⟩:=h3 k hk;obtain ⟨vk,vi,vr,rfl,hv⟩:=hr.inv;exact ⟨vk,vi,vr,⟨hc 0 _ rfl,hc 1 _ rfl,hc 2 _ rfl,hc 3 _ rfl,hc 4 _ rfl,hc 5 _ rfl,hc 6 _ rfl,hc 7 _ rfl⟩,hv⟩
theorem Cells8.below {w w':World} {B b o:Nat} {x:Val} {vk vi vr:Value} (h:Cells8 w b o x vk vi vr) (hb:Below B w w') (hlt:b < B):Cells8 w' b o x vk vi vr:=by
 obtain ⟨h0,h1,h2,h3,h4,h5,h6,h7⟩:=h;exact ⟨(hb.cell hlt).trans h0,(hb.cell hlt).trans h1,(hb.cell hlt).trans h2,(hb.cell hlt).trans h3,(hb.cell hlt).trans h4,(hb.cell hlt).trans h5,(hb.cell hlt).trans h6,(hb.cell hlt).trans h7⟩
abbrev aS (x:Val) (vk vi vr:Value):Value:=.agg #[.int .i64 x.kind,.bool x.bool,.int .i64 x.num,.string ⟨x.str.toArray⟩,.int .i64 x.id,vk,vi,vr]
theorem Jp (x:Val):nodes x=lT x.keys+lT x.items+1:=by cases x;rw [nodes];rfl
def EK:List Raw->Int->Int
 | [],n => n
 | r :: rs,n => if n < 0 then n else EK rs (n - r.2.length)
mutual
def D6:Val->Int->Int
 | .mk _ _ _ s _ ks is rs,n => yV is (yV ks (EK rs (n - (10+s.length+rs.length))))
def yV:List Val->Int->Int
 | [],n => n
 | x :: r,n => if n < 0 then n else yV r (D6 x n)
end
theorem VO (rs:List Raw):∀ n,EK rs n<=n:=by
 induction rs with
 | nil => intro n;exact Int.le_refl _
 | cons r rs ih =>
  intro n;rw [EK];split
  . omega
  have:=ih (n - r.2.length);omega
mutual
theorem X4:∀ (x:Val) (n:Int),D6 x n<=n - 10/\(0<=D6 x n->10*(nodes x:Int)<=n - D6 x n)
 | .mk _ _ _ s _ ks is rs,n => by
  rw [D6,nodes];have h1:=VO rs (n - (10+s.length+rs.length));have h2:=yL ks (EK rs (n - (10+s.length+rs.length)));have h3:=yL is (yV ks (EK rs (n - (10+s.length+rs.length))));refine ⟨by omega,fun h => ?_⟩;have h4:=h3.2 h;have h5:=h2.2 (by omega);omega
theorem yL:∀ (l:List Val) (n:Int),yV l n<=n/\(0<=yV l n->10*(lT l:Int)<=n - yV l n)
 | [],n => by rw [yV,lT];omega
 | x :: r,n => by
  rw [yV,lT];split
  . omega
  have h1:=X4 x n;have h2:=yL r (D6 x n);refine ⟨by omega,fun h => ?_⟩;have h3:=h2.2 h;have h4:=h1.2 (by omega);omega
end
theorem qy {w:World} {b o:Nat} {rs:List Raw} (hcell:∀ j u,(jO rs)[j]?=some u->w.cell? ⟨b,o+j,none⟩=some u) (k:Nat) (h:k < rs.length) :
  w.cell? ⟨b,o+k*2,none⟩=some (.int .i64 rs[k].1)/\w.cell? ⟨b,o+k*2+1,none⟩=some (.string ⟨rs[k].2.toArray⟩) :=
 ⟨hcell (k*2) _ (flat_get Jl rs k 0 h (by omega)),hcell (k*2+1) _ (flat_get Jl rs k 1 h (by omega))⟩
mutual
def iK:Val->Val->Bool
 | .mk k b n s i ks is rs,.mk k' b' n' s' i' ks' is' rs' => decide (k=k'/\b=b'/\n=n'/\s=s'/\i=i'/\rs=rs') && (sS ks ks' && sS is is')
def sS:List Val->List Val->Bool
 | [],[] => true
 | x :: r,y :: s => iK x y && sS r s
 | [],_ :: _ => false
 | _ :: _,[] => false
end
mutual
theorem vM:∀ x y:Val,iK x y=true↔x=y
 | .mk k b n s i ks is rs,.mk k' b' n' s' i' ks' is' rs' => by
  rw [iK];simp only [j_,w_,zK ks ks',zK is is',Val.mk.injEq]
  constructor
  . rintro ⟨⟨rfl,rfl,rfl,rfl,rfl,rfl⟩,rfl,rfl⟩;simp
  rintro ⟨rfl,rfl,rfl,rfl,rfl,rfl,rfl,rfl⟩;simp
theorem zK:∀ x y:List Val,sS x y=true↔x=y
 | [],[] => by simp [sS]
 | x :: r,y :: s => by
  rw [sS];simp only [j_,vM x y,zK r s,List.cons.injEq]
 | [],_ :: _ => by simp [sS]
 | _ :: _,[] => by simp [sS]
end
theorem uS (x y:Val):iK x y=(decide (x.kind=y.kind/\x.bool=y.bool/\x.num=y.num/\x.str=y.str/\x.id=y.id/\x.rest=y.rest) && (sS x.keys y.keys && sS x.items y.items)):=by
 cases x;cases y;rw [iK];rfl
theorem TY (x y:List Val) (h:x.length≠y.length):sS x y=false:=by
 cases hs:sS x y with
 | false => rfl
 | true => exact absurd (congrArg List.length ((zK x y).1 hs)) h
theorem VP (x y:List Val) (k:Nat) (h1:k < x.length) (h2:k < y.length) (h:iK x[k] y[k]=false):sS x y=false:=by
 cases hs:sS x y with
 | false => rfl
 | true =>
  obtain rfl:=(zK x y).1 hs;rw [(vM _ _).2 rfl] at h;cases h
def rU (r:Raw):Value:=.agg #[.int .i64 r.1,.string ⟨r.2.toArray⟩]
theorem bytes_beq (a b:List UInt8):(({ data:=a.toArray } : ByteArray).toList == ({ data:=b.toArray } : ByteArray).toList)=decide (a=b):=by
 rw [ByteArray.toList_eq,ByteArray.toList_eq];by_cases h:a=b <;> simp [h]
theorem zHe {p:Prop} (h:p:=by
 have hb:=bytes_beq x3 y3;go_simp;by_cases h1:x0=y0 <;> by_cases h4:x3=y3 <;> simp [h1,h4]):p:=h
theorem aiL (x y:Raw) (w:World):(Op.equalIn 10000 102 (rU x) (rU y)).run Tryz.prog w = .ok (decide (x=y)) w:=by
 obtain ⟨x0,x3⟩:=x;obtain ⟨y0,y3⟩:=y;have u0:=Tryz.underlying3;have u2:=Tryz.underlying9;have hS:Tryz.prog.underlying 102=some (.struct (Tryz.prog.fieldsOf 102)):=by kernel_rfl
 have hp:Tryz.prog.stoodInHeld 102=false:=by kernel_rfl
 rw [show (10000:Nat)=9999+1 from rfl,rU,rU,run_equalIn_agg w 9999 102 _ _ hS hp];simp only [Program.fieldsOf,Tryz.underlying102];exact zHe
theorem YF (x y:Raw):∀ W,(binOp .neq 102 (rU x) (rU y)).run Tryz.prog W = .ok (.bool (!decide (x=y))) W:=fun W => by
 rw [rU,rU,run_neq_struct,<- rU,<- rU,aiL];rfl
theorem ZI (xs ys:List Raw) (va vb:Value) (w:World) (hlx:xs.length<=140737488351232) (hly:ys.length<=140737488351232) (hx:Rd w w.heap.size 2 va xs.length (jO xs)) (hy:Rd w w.heap.size 2 vb ys.length (jO ys)) :
  Calls Tryz.prog 143 #[va,vb] w (RT w (.bool (decide (xs=ys)))):=by
 obtain ⟨A,c,rfl,hc⟩:=hx.form;obtain ⟨B,d,rfl,hd⟩:=hy.form;by_cases hl:xs.length=ys.length
 .
  have HL:=hiQ hl;have h1:((xs.length:Int) != (ys.length:Int))=false:=by simp [hl]
  have hl':(xs.length:Int)<=ys.length:=by omega
  clear hl;go_enter Tryz.func143,Tryz.ntmps143
  go_wp2
  go_loopw [13] (fun i wr => ∃ k:Nat,k<=xs.length/\i = .int .i64 k/\xs.take k=ys.take k/\Below w.heap.size w wr) (fun i _ => xs.length - (intOf i).toNat)
  case atStart => exact ⟨0,by omega,rfl,rfl,g_ _ _⟩
  case round =>
   obtain ⟨k,hk,rfl,hp,hb⟩:=hrel;have Hp:=hiQ hp;clear hp;by_cases hlt:k < xs.length
   .
    obtain ⟨b,o,rfl,hbb,hcell⟩:=(hx.below hb).at_ (by omega);obtain ⟨b',o',rfl,SE,hcell'⟩:=(hy.below hb).at_ (by omega);have hlt':k < ys.length:=by omega
    obtain ⟨hc0,hc1⟩:=qy hcell k hlt;obtain ⟨hd0,hd1⟩:=qy hcell' k hlt';clear hcell hcell';have hi1:(k:Int) < xs.length:=by omega
    have hi2:(k:Int) < ys.length:=by omega
    have Hx:Hid (xs.take (k+1)=xs.take k ++ [xs[k]]):=vK hlt;have Hy:Hid (ys.take (k+1)=ys.take k ++ [ys[k]]):=vK hlt';have C9:Hid (xs[k]≠ys[k]->xs≠ys):=fun h e => h (by subst e;rfl);generalize xs[k]=x at *;generalize ys[k]=y at *;have hq:=YF x y;have hg:Tryz.prog.eqGuardType Tryz.prog.depth 102=false:=by kernel_rfl
    by_cases he:x=y
    .
     rw [n_ he] at hq;have He:=hiQ he;clear he;simp only [rU,Uu] at hq;go_wp2
     go_quiet (fail)
     go_wp2
     go_roundw
     case rel => exact ⟨k+1,by omega,by go_num,by rw [Hx.out,Hy.out,Hp.out,He.out],below_drewN hb _⟩
     case measure => simp [intOf];omega
    rw [f_ he] at hq;have He:=hiQ he;clear he;simp only [rU,QI] at hq;go_wp2
    go_quiet (fail)
    go_wp2
    go_ret;exact ⟨au (f_ (C9.out He.out)).symm,below_drewN hb _⟩
   go_wp2
   go_ret;refine ⟨au ?_,hb⟩;have e1:=Hp.out;rw [yJ (by omega),yJ (by have:=HL.out;omega)] at e1;exact (n_ e1).symm
 have h1:((xs.length:Int) != (ys.length:Int))=true:=by rw [TM];omega
 have HL:=hiQ hl;clear hl;go_enter Tryz.func143,Tryz.ntmps143
 go_wp2
 go_ret;refine ⟨au ?_,g_ _ _⟩;exact (f_ fun e => HL.out (by rw [e])).symm
theorem QO (xs ys:List Val) (k:Nat) (h1:k < xs.length) (h2:k < ys.length) (hp:xs.take k=ys.take k) (h:iK xs[k] ys[k]=true):xs.take (k+1)=ys.take (k+1):=by
 rw [vK h1,vK h2,hp,(vM _ _).1 h]
theorem zEi {p:Prop} (h:p:=by
 cases hsv:iK x y with
 | true =>
  have VQ:=hiQ (Htk.out hsv);clear hsv;go_wp2_with fail;go_roundw
  case rel => exact ⟨k+1,by omega,by go_num,VQ.out,Cm⟩
  case measure => simp [intOf];omega
 | false =>
  have VQ:=hiQ (C9.out hsv);clear hsv;go_wp2_with fail;go_ret;exact ⟨au VQ.out.symm,Cm⟩):p:=h
theorem zFq {p:Prop} (h:p:=by
 go_wp2
 go_ret;refine ⟨au ?_,hb⟩;have e1:=Hp.out;rw [yJ (by omega),yJ (by have:=HL.out;omega)] at e1;exact ((zK _ _).2 e1).symm):p:=h
theorem Oh (xs ys:List Val) (va vb:Value) (w:World) (hlx:xs.length<=140737488351232) (hly:ys.length<=140737488351232) (hx:qF w w.heap.size va xs) (hy:qF w w.heap.size vb ys)
  (ih:∀ (x y:Val) (vk vi vr xG wM yX:Value) (W:World),x ∈ xs->ValAt W W.heap.size x vk vi vr->ValAt W W.heap.size y xG wM yX->Calls Tryz.prog 128 #[aS x vk vi vr,aS y xG wM yX] W fun e w' => e = .returned (.bool (iK x y))/\Below W.heap.size W w') :
  Calls Tryz.prog 144 #[va,vb,.func (.func 128) #[] #[]] w (RT w (.bool (sS xs ys))):=by
 have IH:=hiQ ih;obtain ⟨A,c,rfl,hc⟩:=hx.form;obtain ⟨B,d,rfl,hd⟩:=hy.form;have HX:=hiQ hx;have HY:=hiQ hy;clear hx hy ih;by_cases hl:xs.length=ys.length
 .
  have HL:=hiQ hl;have h1:((xs.length:Int) != (ys.length:Int))=false:=by simp [hl]
  have hl':(xs.length:Int)<=ys.length:=by omega
  clear hl;go_enter Tryz.func144,Tryz.ntmps144
  go_wp2
  go_loopw [17] (fun i wr => ∃ k:Nat,k<=xs.length/\i = .int .i64 k/\xs.take k=ys.take k/\Below w.heap.size w wr) (fun i _ => xs.length - (intOf i).toNat)
  case atStart => exact ⟨0,by omega,rfl,rfl,g_ _ _⟩
  case round =>
   obtain ⟨k,hk,rfl,hp,hb⟩:=hrel;have Hp:=hiQ hp;clear hp;by_cases hlt:k < xs.length
   .
    have hlt':k < ys.length:=by omega
    obtain ⟨b,o,rfl,hbb,hel⟩:=(HX.out.on hb).elem (by omega);obtain ⟨b',o',rfl,SE,KO⟩:=(HY.out.on hb).elem (by omega);obtain ⟨yk,yi,yr,hcells,hva⟩:=hel k hlt;obtain ⟨yk',yi',yr',hcells',Pj⟩:=KO k hlt';have Htk:=hiQ (QO xs ys k hlt hlt' Hp.out);have C9:=hiQ (VP xs ys k hlt hlt');have hmem:xs[k] ∈ xs:=jl hlt;have hi1:(k:Int) < xs.length:=by omega
    have hi2:(k:Int) < ys.length:=by omega
    generalize xs[k]=x at *;generalize ys[k]=y at *;obtain ⟨A1,n1,A2,n2,A3,n3,rfl,rfl,rfl,-,-,-⟩:=hva.forms;obtain ⟨B1,k1,B2,k2,B3,k3,rfl,rfl,rfl,-,-,-⟩:=Pj.forms;obtain ⟨c0,c1,c2,c3,c4,c5,c6,c7⟩:=hcells;have h2b:=Oe wr;have HC':=Cells8.below hcells' ((g_ wr.heap.size wr).alloc (b_ _) (.cells #[.int .i64 x.kind,.bool x.bool,.int .i64 x.num,.string ⟨x.str.toArray⟩,.int .i64 x.id,.slice A1 x.keys.length n1,.slice A2 x.items.length n2,.slice A3 x.rest.length n3] 34)) SE;obtain ⟨d0,d1,d2,d3,d4,d5,d6,d7⟩:=hcells';have HA:=hiQ hva;have HA':=hiQ Pj;have xE:=hiQ hmem;clear hel KO hva Pj hmem;go_wp2_with fail;refine (IH.out x y _ _ _ _ _ _ _ xE.out (HA.out.on (h2b _ _)) (HA'.out.on (h2b _ _))).mono ?_;rintro e w2 ⟨rfl,hb2⟩;have Cm:=(hb.trans ((h2b _ _).mono hb.size)).trans (hb2.mono (hb.trans ((h2b _ _).mono hb.size)).size);clear hb2 h2b HC' hb;exact zEi
   exact zFq
 have h1:((xs.length:Int) != (ys.length:Int))=true:=by rw [TM];omega
 have HL:=hiQ hl;clear hl;go_enter Tryz.func144,Tryz.ntmps144
 go_wp2
 go_ret;exact ⟨au (TY _ _ HL.out).symm,g_ _ _⟩
theorem zEe {p:Prop} (h:p:=by
 go_wp2
 go_ret;exact ⟨au hs.out.symm,rV _ _⟩):p:=h
theorem zGo {p:Prop} (h:p:=by
 rintro e w3 ⟨rfl,hb3⟩;go_wp2_with fail;go_ret;exact ⟨au (by rw [ny.out];rfl),h02.trans (hb3.mono h02.size)⟩):p:=h
theorem zIp {p:Prop} (h:p:=by
 go_enter Tryz.func128,Tryz.ntmps128
 exact zEe):p:=h
theorem abW:∀ (N:Nat) (x y:Val) (vk vi vr xG wM yX:Value) (w:World),nodes x < N->ValAt w w.heap.size x vk vi vr->ValAt w w.heap.size y xG wM yX ->
  Calls Tryz.prog 128 #[aS x vk vi vr,aS y xG wM yX] w (RT w (.bool (iK x y))):=by
 intro N
 induction N with
 | zero => intro x y vk vi vr xG wM yX w h;omega
 | succ N ih =>
  intro x y vk vi vr xG wM yX w hN hv hv';have hne:=Jp x;have IH:=hiQ ih;have hkeys:=hv.keys;have sU:=hv.items;have hrest:=hv.rest;have uY:=hv'.keys;have sD:=hv'.items;have hrest':=hv'.rest;obtain ⟨hkl,hil,hrl⟩:=hv.lens;obtain ⟨hkl',VR,aiM⟩:=hv'.lens;have hsl:=hv.AL;have amq:=hv'.AL;obtain ⟨A1,n1,A2,n2,A3,n3,rfl,rfl,rfl,-,-,-⟩:=hv.forms;obtain ⟨B1,k1,B2,k2,B3,k3,rfl,rfl,rfl,-,-,-⟩:=hv'.forms;have hNk:lT x.keys+lT x.items < N:=by omega
  clear hv hv' ih hne;have yP:True:=trivial;have rV:=Oe w;by_cases e0:x.kind=y.kind
  .
   have t0:(x.kind == y.kind)=true:=by simp [e0]
   by_cases e1:x.bool=y.bool
   .
    have t1:(x.bool == y.bool)=true:=by simp [e1]
    by_cases e2:x.num=y.num
    .
     have t2:(x.num == y.num)=true:=by simp [e2]
     by_cases e3:x.str=y.str
     .
      have t3:(x.str == y.str)=true:=by simp [e3]
      by_cases e4:x.id=y.id
      .
       have t4:(x.id == y.id)=true:=by simp [e4]
       have hse:iK x y=(decide (x.rest=y.rest) && (sS x.keys y.keys && sS x.items y.items)):=by rw [uS];simp [e0,e1,e2,e3,e4]
       have ny:=hiQ hse;clear hse e0 e1 e2 e3 e4;go_enter Tryz.func128,Tryz.ntmps128
       go_wp2_with fail;generalize hw0:(w.alloc _).alloc _=w0 at *;have h00:Below w.heap.size w w0:=by rw [<- hw0];exact rV _ _
       have HX0:Has w0 w.heap.size 34 #[.int .i64 x.kind,.bool x.bool,.int .i64 x.num,.string ⟨x.str.toArray⟩,.int .i64 x.id,.slice A1 x.keys.length n1,.slice A2 x.items.length n2,.slice A3 x.rest.length n3]:=by rw [<- hw0];exact (Has.made _ _ _).alloc _
       have Gz:Has w0 (w.heap.size+1) 34 #[.int .i64 y.kind,.bool y.bool,.int .i64 y.num,.string ⟨y.str.toArray⟩,.int .i64 y.id,.slice B1 y.keys.length k1,.slice B2 y.items.length k2,.slice B3 y.rest.length k3]:=by rw [<- hw0];simpa using Has.made (w.alloc _) _ _
       clear hw0 rV;have hz0:=Gz.here;have hz0':w.heap.size < w0.heap.size:=by omega
       have HK:=hiQ (hkeys.on h00);have VT:=hiQ (uY.on h00);have HI:=hiQ (sU.on h00);have KQ:=hiQ (sD.on h00);refine (ZI x.rest y.rest _ _ _ hrl aiM ((hrest.below h00).mono h00.size) ((hrest'.below h00).mono h00.size)).mono ?_;rintro e w1 ⟨rfl,hb1⟩;have h01:=h00.trans (hb1.mono h00.size);have HX1:=HX0.below hb1 hz0';have HY1:=Gz.below hb1 hz0;have hz1:w.heap.size+1 < w1.heap.size:=u_ hz0 hb1.size;have hz1':w.heap.size < w1.heap.size:=by omega
       have HK:=hiQ (HK.out.on hb1);have VT:=hiQ (VT.out.on hb1);have HI:=hiQ (HI.out.on hb1);have KQ:=hiQ (KQ.out.on hb1);have cx:=HX1.cell 5;have cy:=HY1.cell 5;simp only [qI] at cx cy;have HX1:=hiQ HX1;have HY1:=hiQ HY1;clear hb1 HX0 Gz hkeys uY sU sD hrest hrest';cases hdr:decide (x.rest=y.rest) with
       | false =>
        rw [hdr] at ny;clear hdr;go_wp2_with fail;go_ret;exact ⟨au ny.out.symm,h01⟩
       | true =>
        rw [hdr] at ny;clear hdr;go_wp2_with fail;refine (Oh x.keys y.keys _ _ _ hkl hkl' HK.out VT.out (fun p q _ _ _ _ _ _ W hp h1 h2 => IH.out p q _ _ _ _ _ _ W (by have:=tY x.keys p hp;omega) h1 h2)).mono ?_;rintro e w2 ⟨rfl,hb2⟩;have h02:=h01.trans (hb2.mono h01.size);have Ua:=HX1.out.below hb2 hz1';have Oi:=HY1.out.below hb2 hz1;have HI:=hiQ (HI.out.on hb2);have KQ:=hiQ (KQ.out.on hb2);clear cx cy;have cx:=Ua.cell 6;have cy:=Oi.cell 6;simp only [qI] at cx cy;have Ua:=hiQ Ua;have Oi:=hiQ Oi;clear hb2;cases hdk:sS x.keys y.keys with
        | false =>
         rw [hdk] at ny;clear hdk;go_wp2_with fail;go_ret;exact ⟨au ny.out.symm,h02⟩
        | true =>
         rw [hdk] at ny;clear hdk;go_wp2_with fail;refine (Oh x.items y.items _ _ _ hil VR HI.out KQ.out (fun p q _ _ _ _ _ _ W hp h1 h2 => IH.out p q _ _ _ _ _ _ W (by have:=tY x.items p hp;omega) h1 h2)).mono ?_;exact zGo
      have t4:(x.id == y.id)=false:=by simpa using e4
      have hs:Hid (iK x y=false):=by show _=_;rw [uS,f_ (fun h => e4 h.2.2.2.2.1)];rfl
      clear e0 e1 e2 e3 e4 yP hkeys uY sU sD hrest hrest';exact zIp
     have t3:(x.str == y.str)=false:=by simpa using e3
     have hs:Hid (iK x y=false):=by show _=_;rw [uS,f_ (fun h => e3 h.2.2.2.1)];rfl
     clear e0 e1 e2 e3 yP hkeys uY sU sD hrest hrest';exact zIp
    have t2:(x.num == y.num)=false:=by simpa using e2
    have hs:Hid (iK x y=false):=by show _=_;rw [uS,f_ (fun h => e2 h.2.2.1)];rfl
    clear e0 e1 e2 yP hkeys uY sU sD hrest hrest';exact zIp
   have t1:(x.bool == y.bool)=false:=by simpa using e1
   have hs:Hid (iK x y=false):=by show _=_;rw [uS,f_ (fun h => e1 h.2.1)];rfl
   clear e0 e1 yP hkeys uY sU sD hrest hrest';exact zIp
  have t0:(x.kind == y.kind)=false:=by simpa using e0
  have hs:Hid (iK x y=false):=by show _=_;rw [uS,f_ (fun h => e0 h.1)];rfl
  clear e0 yP hkeys uY sU sD hrest hrest';exact zIp
theorem QS (xs ys:List Val) (va vb:Value) (w:World) (hlx:xs.length<=140737488351232) (hly:ys.length<=140737488351232) (hx:qF w w.heap.size va xs) (hy:qF w w.heap.size vb ys)
  (ih:∀ (x y:Val) (vk vi vr xG wM yX:Value) (W:World),x ∈ xs->ValAt W W.heap.size x vk vi vr->ValAt W W.heap.size y xG wM yX->Calls Tryz.prog 29 #[aS x vk vi vr,aS y xG wM yX] W fun e w' => e = .returned (.bool (iK x y))/\Below W.heap.size W w') :
  Calls Tryz.prog 53 #[va,vb] w (RT w (.bool (sS xs ys))):=by
 have IH:=hiQ ih;obtain ⟨A,c,rfl,hc⟩:=hx.form;obtain ⟨B,d,rfl,hd⟩:=hy.form;have HX:=hiQ hx;have HY:=hiQ hy;clear hx hy ih;by_cases hl:xs.length=ys.length
 .
  have HL:=hiQ hl;have h1:((xs.length:Int) != (ys.length:Int))=false:=by simp [hl]
  have hl':(xs.length:Int)<=ys.length:=by omega
  clear hl;go_enter Tryz.func53,Tryz.ntmps53
  go_wp2
  go_loopw [5] (fun i wr => ∃ k:Nat,k<=xs.length/\i = .int .i64 k/\xs.take k=ys.take k/\Below w.heap.size w wr) (fun i _ => xs.length - (intOf i).toNat)
  case atStart => exact ⟨0,by omega,rfl,rfl,g_ _ _⟩
  case round =>
   obtain ⟨k,hk,rfl,hp,hb⟩:=hrel;have Hp:=hiQ hp;clear hp;by_cases hlt:k < xs.length
   .
    have hlt':k < ys.length:=by omega
    obtain ⟨b,o,rfl,hbb,hel⟩:=(HX.out.on hb).elem (by omega);obtain ⟨b',o',rfl,SE,KO⟩:=(HY.out.on hb).elem (by omega);obtain ⟨yk,yi,yr,hcells,hva⟩:=hel k hlt;obtain ⟨yk',yi',yr',hcells',Pj⟩:=KO k hlt';have Htk:=hiQ (QO xs ys k hlt hlt' Hp.out);have C9:=hiQ (VP xs ys k hlt hlt');have hmem:xs[k] ∈ xs:=jl hlt;have hi1:(k:Int) < xs.length:=by omega
    have hi2:(k:Int) < ys.length:=by omega
    generalize xs[k]=x at *;generalize ys[k]=y at *;obtain ⟨A1,n1,A2,n2,A3,n3,rfl,rfl,rfl,-,-,-⟩:=hva.forms;obtain ⟨B1,k1,B2,k2,B3,k3,rfl,rfl,rfl,-,-,-⟩:=Pj.forms;obtain ⟨c0,c1,c2,c3,c4,c5,c6,c7⟩:=hcells;obtain ⟨d0,d1,d2,d3,d4,d5,d6,d7⟩:=hcells';have HA:=hiQ hva;have HA':=hiQ Pj;have xE:=hiQ hmem;clear hel KO hva Pj hmem;go_wp2_with fail;go_still_tail 8,(by kernel_rfl)
    change wpList _ _ _ _ _ wr.drew
    have HD:=hiQ (HA.out.on (w':=wr.drew) (g_ _ _).drew);have HD':=hiQ (HA'.out.on (w':=wr.drew) (g_ _ _).drew);have hbd:=hb.drew;clear hb c0 c1 c2 c3 c4 c5 c6 c7 d0 d1 d2 d3 d4 d5 d6 d7 HA HA';generalize wr.drew=w1 at *;go_wp2_with fail;refine (IH.out x y _ _ _ _ _ _ _ xE.out HD.out HD'.out).mono ?_;rintro e w2 ⟨rfl,hb2⟩;have Cm:=hbd.trans (hb2.mono hbd.size);clear hb2 hbd;exact zEi
   exact zFq
 have h1:((xs.length:Int) != (ys.length:Int))=true:=by rw [TM];omega
 have HL:=hiQ hl;clear hl;go_enter Tryz.func53,Tryz.ntmps53
 go_wp2
 go_ret;exact ⟨au (TY _ _ HL.out).symm,g_ _ _⟩
theorem zIr {p:Prop} (h:p:=by
 go_enter Tryz.func29,Tryz.ntmps29
 exact zEe):p:=h
theorem BI:∀ (N:Nat) (x y:Val) (vk vi vr xG wM yX:Value) (w:World),nodes x < N->ValAt w w.heap.size x vk vi vr->ValAt w w.heap.size y xG wM yX ->
  Calls Tryz.prog 29 #[aS x vk vi vr,aS y xG wM yX] w (RT w (.bool (iK x y))):=by
 intro N
 induction N with
 | zero => intro x y vk vi vr xG wM yX w h;omega
 | succ N ih =>
  intro x y vk vi vr xG wM yX w hN hv hv';have hne:=Jp x;have IH:=hiQ ih;have hkeys:=hv.keys;have sU:=hv.items;have hrest:=hv.rest;have uY:=hv'.keys;have sD:=hv'.items;have hrest':=hv'.rest;obtain ⟨hkl,hil,hrl⟩:=hv.lens;obtain ⟨hkl',VR,aiM⟩:=hv'.lens;have hsl:=hv.AL;have amq:=hv'.AL;obtain ⟨A1,n1,A2,n2,A3,n3,rfl,rfl,rfl,-,-,-⟩:=hv.forms;obtain ⟨B1,k1,B2,k2,B3,k3,rfl,rfl,rfl,-,-,-⟩:=hv'.forms;have hNk:lT x.keys+lT x.items < N:=by omega
  clear hv hv' ih hne;have rV:=Oe w;by_cases e0:x.kind=y.kind
  .
   have t0:(x.kind != y.kind)=false:=by simp [e0]
   by_cases e1:x.bool=y.bool
   .
    have t1:(x.bool != y.bool)=false:=by simp [e1]
    by_cases e2:x.num=y.num
    .
     have t2:(x.num != y.num)=false:=by simp [e2]
     by_cases e3:x.str=y.str
     .
      have t3:(x.str != y.str)=false:=by simp [e3]
      by_cases e4:x.id=y.id
      .
       have t4:(x.id != y.id)=false:=by simp [e4]
       have hse:iK x y=(decide (x.rest=y.rest) && (sS x.keys y.keys && sS x.items y.items)):=by rw [uS];simp [e0,e1,e2,e3,e4]
       have ny:=hiQ hse;simp only [aS,<- e0,<- e1,<- e2,<- e3,<- e4];clear hse e0 e1 e2 e3 e4;by_cases hl:x.rest.length=y.rest.length
       .
        have HL:=hiQ hl;have tl:((x.rest.length:Int) != (y.rest.length:Int))=false:=by simp [hl]
        have hl':(x.rest.length:Int)<=y.rest.length:=by omega
        clear hl;go_enter Tryz.func29,Tryz.ntmps29
        go_wp2_with fail;generalize hw0:(w.alloc _).alloc _=w0 at *;have h00:Below w.heap.size w w0:=by rw [<- hw0];exact rV _ _
        have HX0:Has w0 w.heap.size 34 #[.int .i64 x.kind,.bool x.bool,.int .i64 x.num,.string ⟨x.str.toArray⟩,.int .i64 x.id,.slice A1 x.keys.length n1,.slice A2 x.items.length n2,.slice A3 x.rest.length n3]:=by rw [<- hw0];exact (Has.made _ _ _).alloc _
        have Gz:Has w0 (w.heap.size+1) 34 #[.int .i64 x.kind,.bool x.bool,.int .i64 x.num,.string ⟨x.str.toArray⟩,.int .i64 x.id,.slice B1 y.keys.length k1,.slice B2 y.items.length k2,.slice B3 y.rest.length k3]:=by rw [<- hw0];simpa using Has.made (w.alloc _) _ _
        clear hw0 rV;have hz0:=Gz.here;have hz0':w.heap.size < w0.heap.size:=by omega
        have HK:=hiQ (hkeys.on h00);have VT:=hiQ (uY.on h00);have HI:=hiQ (sU.on h00);have KQ:=hiQ (sD.on h00);have HR:=hiQ ((hrest.below h00).mono h00.size);have HR':=hiQ ((hrest'.below h00).mono h00.size);have HX0:=hiQ HX0;have Gz:=hiQ Gz;clear hkeys uY sU sD hrest hrest';go_loopw [5] (fun i wr => ∃ k:Nat,i = .int .i64 k/\k<=x.rest.length/\x.rest.take k=y.rest.take k/\Below w0.heap.size w0 wr) (fun i _ => x.rest.length - (intOf i).toNat)
        case atStart => exact ⟨0,rfl,by omega,rfl,g_ _ _⟩
        case round =>
         obtain ⟨k,rfl,hk,hp,hb⟩:=hrel;have Hp:=hiQ hp;clear hp;have Dt:=HX0.out.below hb hz0';have J4:=Gz.out.below hb hz0;have cx:=Dt.cell 7;have cy:=J4.cell 7;simp only [qI] at cx cy;have Dt:=hiQ Dt;have J4:=hiQ J4;by_cases hlt:k < x.rest.length
         .
          obtain ⟨b,o,rfl,hbb,hcell⟩:=(HR.out.below hb).at_ (by omega);obtain ⟨b',o',rfl,SE,hcell'⟩:=(HR'.out.below hb).at_ (by omega);have hlt':k < y.rest.length:=by omega
          obtain ⟨hc0,hc1⟩:=qy hcell k hlt;obtain ⟨hd0,hd1⟩:=qy hcell' k hlt';clear hcell hcell';have hi1:(k:Int) < x.rest.length:=by omega
          have hi2:(k:Int) < y.rest.length:=by omega
          have Hx:Hid (x.rest.take (k+1)=x.rest.take k ++ [x.rest[k]]):=vK hlt;have Hy:Hid (y.rest.take (k+1)=y.rest.take k ++ [y.rest[k]]):=vK hlt';have C9:Hid (x.rest[k]≠y.rest[k]->iK x y=false):=fun h => by
           rw [ny.out,f_ (fun e => h (by simp [e]))];rfl
          generalize x.rest[k]=r at *;generalize y.rest[k]=s at *;have hq:=YF r s;have hg:Tryz.prog.eqGuardType Tryz.prog.depth 102=false:=by kernel_rfl
          have h0w:=h00.trans (hb.mono h00.size);by_cases he:r=s
          .
           rw [n_ he] at hq;have He:=hiQ he;clear he;simp only [rU,Uu] at hq;go_wp2
           go_quiet (fail)
           go_wp2
           go_roundw
           case rel => exact ⟨k+1,by go_num,by omega,by rw [Hx.out,Hy.out,Hp.out,He.out],below_drewN hb _⟩
           case measure => simp [intOf];omega
          rw [f_ he] at hq;have He:=hiQ he;clear he;simp only [rU,QI] at hq;go_wp2
          go_quiet (fail)
          go_wp2
          go_ret;exact ⟨au (C9.out He.out).symm,below_drewN h0w _⟩
         have e1:=Hp.out;rw [yJ (by omega),yJ (by have:=HL.out;omega)] at e1;rw [n_ e1] at ny;have h0w:=h00.trans (hb.mono h00.size);have HK:=hiQ (HK.out.on hb);have VT:=hiQ (VT.out.on hb);have HI:=hiQ (HI.out.on hb);have KQ:=hiQ (KQ.out.on hb);have hzr:w.heap.size+1 < wr.heap.size:=u_ hz0 hb.size;have amr:w.heap.size < wr.heap.size:=by omega
         have cx5:=Dt.out.cell 5;have cy5:=J4.out.cell 5;simp only [qI] at cx5 cy5;clear e1 hb Hp;go_wp2_with fail;refine (QS x.keys y.keys _ _ _ hkl hkl' HK.out VT.out (fun p q _ _ _ _ _ _ W hp h1 h2 => IH.out p q _ _ _ _ _ _ W (by have:=tY x.keys p hp;omega) h1 h2)).mono ?_;rintro e w2 ⟨rfl,hb2⟩;have h02:=h0w.trans (hb2.mono h0w.size);have Ua:=Dt.out.below hb2 amr;have Oi:=J4.out.below hb2 hzr;have HI:=hiQ (HI.out.on hb2);have KQ:=hiQ (KQ.out.on hb2);clear cx cy cx5 cy5;have cx:=Ua.cell 6;have cy:=Oi.cell 6;simp only [qI] at cx cy;clear hb2 Ua Oi;cases hdk:sS x.keys y.keys with
         | false =>
          rw [hdk] at ny;clear hdk;go_wp2_with fail;go_ret;exact ⟨au ny.out.symm,h02⟩
         | true =>
          rw [hdk] at ny;clear hdk;go_wp2_with fail;refine (QS x.items y.items _ _ _ hil VR HI.out KQ.out (fun p q _ _ _ _ _ _ W hp h1 h2 => IH.out p q _ _ _ _ _ _ W (by have:=tY x.items p hp;omega) h1 h2)).mono ?_;exact zGo
       have tl:((x.rest.length:Int) != (y.rest.length:Int))=true:=by rw [TM];omega
       rw [f_ (fun h => hl (by rw [h]))] at ny;clear hl hkeys uY sU sD hrest hrest';go_enter Tryz.func29,Tryz.ntmps29
       go_wp2
       go_ret;exact ⟨au ny.out.symm,rV _ _⟩
      have t4:(x.id != y.id)=true:=by simpa using e4
      have hs:Hid (iK x y=false):=by show _=_;rw [uS,f_ (fun h => e4 h.2.2.2.2.1)];rfl
      simp only [aS,<- e0,<- e1,<- e2,<- e3];clear e0 e1 e2 e3 hkeys uY sU sD hrest hrest';exact zIr
     have t3:(x.str != y.str)=true:=by simpa using e3
     have t3':(!(x.str == y.str))=true:=by simpa using e3
     have hs:Hid (iK x y=false):=by show _=_;rw [uS,f_ (fun h => e3 h.2.2.2.1)];rfl
     simp only [aS,<- e0,<- e1,<- e2];clear e0 e1 e2 hkeys uY sU sD hrest hrest';exact zIr
    have t2:(x.num != y.num)=true:=by simpa using e2
    have hs:Hid (iK x y=false):=by show _=_;rw [uS,f_ (fun h => e2 h.2.2.1)];rfl
    simp only [aS,<- e0,<- e1];clear e0 e1 hkeys uY sU sD hrest hrest';exact zIr
   have t1:(x.bool != y.bool)=true:=by simpa using e1
   have hs:Hid (iK x y=false):=by show _=_;rw [uS,f_ (fun h => e1 h.2.1)];rfl
   simp only [aS,<- e0];clear e0 hkeys uY sU sD hrest hrest';exact zIr
  have t0:(x.kind != y.kind)=true:=by simpa using e0
  have hs:Hid (iK x y=false):=by show _=_;rw [uS,f_ (fun h => e0 h.1)];rfl
  clear hkeys uY sU sD hrest hrest';exact zIr
theorem Ji (x y:Val) (vk vi vr xG wM yX:Value) (w:World) (hv:ValAt w w.heap.size x vk vi vr) (hv':ValAt w w.heap.size y xG wM yX) :
  Calls Tryz.prog 11 #[aS x vk vi vr,aS y xG wM yX] w (RT w (.bool (iK x y))):=by
 obtain ⟨A1,n1,A2,n2,A3,n3,rfl,rfl,rfl,-,-,-⟩:=hv.forms;obtain ⟨B1,k1,B2,k2,B3,k3,rfl,rfl,rfl,-,-,-⟩:=hv'.forms;have rV:=Oe w;have HV:=hiQ hv;have HV':=hiQ hv';clear hv hv';go_enter Tryz.func11,Tryz.ntmps11
 go_wp2_with fail;refine (BI (nodes x+1) x y _ _ _ _ _ _ _ (by omega) (HV.out.on (rV _ _)) (HV'.out.on (rV _ _))).mono ?_;rintro e w1 ⟨rfl,hb1⟩;go_wp2_with fail;go_ret;exact ⟨rfl,(rV _ _).trans (hb1.mono (rV _ _).size)⟩
