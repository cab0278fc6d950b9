/- What the reader of canonical bytes takes: a number, an integer. Plain: canonical roots with the same bytes are the same. Plain: what is read back from canonical bytes: types without their defaults, defaults without parts. Lists of values that a call builds by append. Tables of booleans that a call makes: rows in blocks of their own. FromBig: the number with big-endian bytes. Plain: payloads taken apart, and what a reader sees in them. The parts of a payload: next, part, Arm, Items, Fields. Fields of a payload. What decoding may change: the reader's block, rows of ints above it, new blocks. fail. The contract of what decodes a payload; a row cut by one. No condition. -/
import Derived.Test.YtlamhkffnlgofaaGreatDoorHAK
import Derived.Test.YtlamhkffnlgofaaGreatDoorHAF
import Derived.Maps.AppendAt
import Derived.Laws.OwnMore
import Derived.OwnWalk
set_option maxHeartbeats 800000
set_option maxRecDepth 100000
namespace Go.Proofs.YtlamhkffnlgofaaGreatDoor
open Go.ChangeShapes Go.WideShapes Go.ChangeAt Go.RowKit
def Y6 (w:World) (gr:Nat) (l:List UInt8) (k:Nat):Prop:=Has w gr 110 #[.string ⟨l.toArray⟩,.bool false,.int .i64 (k:Nat)]
def anM (gr:Nat) (v:Value) (l:List UInt8) (k:Nat) (w:World) (e:Ending) (w':World):Prop:=e = .returned v∧Y6 w' gr l k∧w.grownBy w' (some gr)
section
variable {w w' w2:World} {gr g k L B:Nat} {l:List UInt8} {T:TypeId} {cs:Array Value} {P:World→Prop}
theorem Y6.here (h:Y6 w gr l k):gr < w.heap.size:=Has.here h
theorem qR0 (w:World) (r:Option Nat):w.grownBy w r:=⟨rfl,rfl,rfl,Nat.le_refl _,fun _ _ _ => rfl⟩
theorem qT {r:Option Nat} (h:w.grownBy w' r) (k:w'.grownBy w2 r):w.grownBy w2 r :=
 ⟨k.os.trans h.os,k.tape.trans h.tape,k.output.trans h.output,Nat.le_trans h.size k.size,fun i hi hr => (k.block i (Nat.lt_of_lt_of_le hi h.size) hr).trans (h.block i hi hr)⟩
theorem qOf {r:Option Nat} (h:Below w.heap.size w w'):w.grownBy w' r:=⟨h.os,h.tape,h.output,h.size,fun k hk _ => h.block k hk⟩
theorem qB (h:Hid (Y6 w gr l k)) (hb:Below w.heap.size w w'):Hid (Y6 w' gr l k):=hiQ (Has.below h.out hb (Has.here h.out))
theorem qkB {r:Option Nat} (K:w.grownBy w' r) (hb:Below w'.heap.size w' w2):w.grownBy w2 r:=qT K (qOf hb)
theorem qH (h:Hid (Has w g T cs)) (K:w.grownBy w' (some gr)) (hg:g≠gr):Hid (Has w' g T cs):=(K.block g h.out.here (fun e => hg (by injection e with e))).trans h.out
theorem qN (h:Hid (Kept P w L B)) (K:w.grownBy w' (some gr)) (hd:B≤gr∨gr < L):Hid (Kept P w' L B) :=
 h.out.move (fun k hl hk => K.block k (Nat.lt_of_lt_of_le hk h.out.le) (fun e => by injection e;omega)) K.size
theorem qS {i:Nat} {v:Value} (h:Hid (Y6 w gr l k)) (hE:w.setCell ⟨g,i,none⟩ v=w') (hg:g≠gr):Hid (Y6 w' gr l k):=by
 subst hE;exact (Below.heap_setCell w ⟨g,i,none⟩ v gr (Ne.symm hg)).trans h.out
theorem qkS {i:Nat} {v:Value} {r:Option Nat} (K:w.grownBy w' r) (hE:w'.setCell ⟨g,i,none⟩ v=w2) (hg:w.heap.size≤g):w.grownBy w2 r:=by
 subst hE;exact ⟨K.os,K.tape,K.output,by simpa [World.setCell] using K.size,fun q hq hr => (Below.heap_setCell w' ⟨g,i,none⟩ v q (by show q≠g;omega)).trans (K.block q hq hr)⟩
theorem qR {cs':Array Value} (h:Hid (Y6 w gr l k)) (hE:w.setRow g cs'=w') (hg:g≠gr):Hid (Y6 w' gr l k):=by
 subst hE;exact oO h.out (Ne.symm hg)
theorem qkR {cs':Array Value} {r:Option Nat} (K:w.grownBy w' r) (hE:w'.setRow g cs'=w2) (hg:w.heap.size≤g):w.grownBy w2 r:=by
 subst hE;have hb:=below_setRow (Below.refl g w') (Nat.le_refl _) cs';exact ⟨hb.os.trans K.os,hb.tape.trans K.tape,hb.output.trans K.output,Nat.le_trans K.size hb.size,fun q hq hr => (hb.block q (by omega)).trans (K.block q hq hr)⟩
theorem qBL (h:Hid (Y6 w gr l k)) (hb:Below L w w') (hg:gr < L):Hid (Y6 w' gr l k):=hiQ (Has.below h.out hb hg)
theorem avE {r:Option Nat} (K:w.grownBy w' r) (hb:Below L w' w2) (hg:w.heap.size≤L):w.grownBy w2 r :=
 ⟨hb.os.trans K.os,hb.tape.trans K.tape,hb.output.trans K.output,Nat.le_trans K.size hb.size,fun q hq hr => (hb.block q (by omega)).trans (K.block q hq hr)⟩
theorem qkG {i:Nat} {v:Value} (K:w.grownBy w' (some g)) (hE:w'.setCell ⟨g,i,none⟩ v=w2):w.grownBy w2 (some g):=by
 subst hE;exact ⟨K.os,K.tape,K.output,by simpa [World.setCell] using K.size,fun q hq hr => (Below.heap_setCell w' ⟨g,i,none⟩ v q (fun e => hr (by rw [e]))).trans (K.block q hq hr)⟩
end
theorem Wu (n:Nat) (hn:oV n) (r:List UInt8) (k gr:Nat) (w:World) (hr:Y6 w gr (pJ 9 n ++ r) k) :
  Calls Tryz.prog 94 #[.pointer (some ⟨gr,0,none⟩)] w (anM gr (.int .u64 (n:Nat)) r 0 w):=by
 have hget:=fun W => get_any (pJ 9 n ++ r) W;simp only [aeu n hn r] at hget;obtain ⟨l,hl⟩ : ∃ l,l=pJ 9 n ++ r:=⟨_,rfl⟩
 obtain ⟨m,hm⟩ : ∃ m,m=(pJ 9 n).length:=⟨_,rfl⟩
 have hml:=qw 9 n;have hdrop:l.drop m=r:=by rw [hl,hm,List.drop_left]
 have hlen:m≤l.length:=by rw [hl,hm,List.length_append];omega
 rw [← hl,← hm] at hget;rw [← hl] at hr;rw [← hm] at hml;have HG:=hiQ hget;have HD:=hiQ hdrop;have X:=hr;clear hget hdrop hr hl hm;replace X:=hiQ X;go_enter Tryz.func94,Tryz.ntmps94
 have aK:=X.out.e0;go_wp2_with fail;clear aK;((with_reducible refine (HG.out _).mono ?_);rintro e wd1 ⟨rfl,rfl⟩);have aK:=X.out.e0;have bJ:=X.out.e1;have av8:=X.out.free 0;go_upto_region 6 with fail;rw [Pg l m l.length rfl,HD.out];clear aK bJ av8;generalize HE1:w.setCell ⟨gr,0,none⟩ (.string ⟨r.toArray⟩)=w1;have hK1:=qkG (qR0 w (some gr)) HE1;replace X:=xR X HE1;clear HE1;have Y:=X.out;replace Y:=hiQ Y;have kV:=Y.out.e2;have aE9:=Y.out.free 2;go_wp2_with fail;clear kV aE9;generalize HE2:w1.setCell ⟨gr,2,none⟩ (.int .i64 0)=w2;have hK2:=qkG hK1 HE2;replace Y:=Yx Y HE2;go_ret;exact ⟨rfl,Y.out,hK2⟩
theorem an1 (most:Int) (hm:0≤most∧most≤4611686018427387904) (v:Int) (n:Nat) (hv:v=(n:Nat)) (hn:v≤most) (r:List UInt8) (k gr:Nat) (w:World) (hr:Y6 w gr (pJ 9 n ++ r) k) :
  Calls Tryz.prog 61 #[.pointer (some ⟨gr,0,none⟩),.int .i64 most] w (anM gr (.int .i64 v) r 0 w):=by
 subst hv;go_enter Tryz.func61,Tryz.ntmps61
 go_wp2_with fail
 (with_reducible refine (Wu n (by unfold oV;omega) r k gr w hr).mono ?_);rintro e w1 ⟨rfl,hR,hK⟩
 have hq1:IntKind.u64.wrap most=most:=by rw [IntKind.wrap_u64];omega
 have hq2:¬ (most < (n:Int)):=by omega
 have hq3:wrap64 (n:Int)=(n:Nat):=by unfold wrap64;omega
 go_wp2_with fail;go_ret;exact ⟨rfl,hR,hK⟩
end Go.Proofs.YtlamhkffnlgofaaGreatDoor
namespace Go.Proofs.YtlamhkffnlgofaaGreatDoor
def Canon (ts:List ay):Prop := ∀ (n:Nat) (x:ay),ts[n]?=some x→x.name=(if x.kind=4∨x.kind=5∨x.kind=6 then rF 84 n else [])∧(∀ s ∈ x.syms,s.2=rF 115 s.1)∧∀ m ∈ x.ah,m.name=rF 102 m.id
theorem ash {ts:List ay} (hv:fF ts=0) {t:Nat} (ht:t < ts.length):Canon (jk ts t):=by
 intro n y hy;obtain ⟨a,x,_,hx,rfl⟩:=aqN hv ht hy;have hz:=(U0 ((ni hv).2 x (List.mem_of_getElem? hx)).1).1;refine ⟨?_,fun s hs => ?_,fun m hm => ?_⟩
 ·
  show (if x.name = [] then [] else rF 84 (n:Int))=(if x.kind=4∨x.kind=5∨x.kind=6 then rF 84 (n:Int) else []);by_cases h:x.kind=4∨x.kind=5∨x.kind=6
  · rw [if_pos h,if_neg (fun e => hz.1 e h)]
  rw [if_neg h,if_pos (hz.2 h)]
 · obtain ⟨q,_,rfl⟩:=List.mem_map.1 hs;rfl
 obtain ⟨q,_,rfl⟩:=List.mem_map.1 hm;rfl
def acM (ts:List ay):Prop := ∀ x ∈ ts,∀ m ∈ x.ah,m.eG=true→cO ts true m.dflt m.ty=true
def akg (ts:List ay):Prop := ∀ x ∈ ts,I64 x.low∧I64 x.high
theorem anY {ts:List ay} (hv:fF ts=0) (hI:akg ts):∀ x ∈ ts,aru x:=by
 intro x hx;obtain ⟨hf,_,_⟩:=(ni hv).2 x hx;have hl:=(ni hv).1;have hk:=Us hf;obtain ⟨_,_,hu⟩:=akc hv x hx;obtain ⟨_,z2,z3,z4,z5⟩:=U0 hf;have hm:=asx hv hx;have hn:=form_nil hf;refine ⟨hf,hI x hx,?_,?_,?_,?_,?_⟩
 ·
  by_cases h3:x.kind=3
  · have:=hm.1 h3;omega
  by_cases h7:x.kind=7∨x.kind=8
  · have:=hm.2 h7;omega
  have:=hn.2.1 (by omega);omega
 ·
  by_cases h4:x.kind=4
  · exact av5 hf h4
  rw [z5 h4];simp
 ·
  by_cases h5:x.kind=5∨x.kind=6
  ·
   obtain ⟨h1,h2⟩:=as2 hf h5;refine ⟨h1,fun m hmm => ?_⟩;obtain ⟨a,b⟩:=h2 m hmm;obtain ⟨k,hk1,hk2⟩:=hu m.ty (alE x m hmm);exact ⟨a,by omega,b⟩
  rw [z4 h5];simp
 ·
  by_cases h8:x.kind=8
  · obtain ⟨k,hk1,hk2⟩:=hu _ (aon x h8);omega
  rw [z2 h8];omega
 by_cases h7:7≤x.kind
 · obtain ⟨k,hk1,hk2⟩:=hu _ (aqY x h7);omega
 rw [z3 (by omega)];omega
section
variable {ts us:List ay} (hv:fF ts=0) (hw:fF us=0) (hI:akg ts) (hD:acM ts) (hE:acM us) (hl:ts.length=us.length) (hC:∀ (n:Nat) (x y:ay),ts[n]?=some x→us[n]?=some y→atU x y)
include hl hC in
end
theorem aoU {ts:List ay} (hv:fF ts=0) {t:Nat} (ht:t < ts.length) (hD:acM ts):acM (jk ts t):=by
 intro y hy m hm hd;obtain ⟨n,hn⟩:=List.getElem?_of_mem hy;obtain ⟨a,x,ha,hx,rfl⟩:=aqN hv ht hn;obtain ⟨q,hq,rfl⟩:=List.mem_map.1 hm;have hxm:=List.mem_of_getElem? hx;obtain ⟨k,hk1,hk2⟩:=(akc hv x hxm).2.2 q.ty (alE x q hq);have h1:=hD x hxm q hq hd;have hin:=FP hv;obtain ⟨_,_,hcl⟩:=akS hin ht;have hku:k ∈ og ts a:=by
  unfold og;rw [hx];show k ∈ outs x;rw [alr (akc hv x hxm).1];have:=List.mem_map_of_mem (f:=Int.toNat) (alE x q hq);rwa [hk1,Int.toNat_natCast] at this
 have hb:=auf hin ht hk2 (aqL (hcl a (List.mem_of_getElem? ha) k hku));rw [hk1,aBC (akc hv) (akc (akP hv ht)) true _ hb] at h1;show cO (jk ts t) true q.dflt ((ixN ts t q.ty.toNat:Nat):Int)=true;rw [hk1,Int.toNat_natCast];exact h1
theorem ari {ts:List ay} (hv:fF ts=0) {t:Nat} (ht:t < ts.length) (hI:akg ts):akg (jk ts t):=by
 intro y hy;obtain ⟨n,hn⟩:=List.getElem?_of_mem hy;obtain ⟨a,x,_,hx,rfl⟩:=aqN hv ht hn;exact hI x (List.mem_of_getElem? hx)
end Go.Proofs.YtlamhkffnlgofaaGreatDoor
namespace Go.Proofs.YtlamhkffnlgofaaGreatDoor
open Go.ChangeShapes Go.WideShapes Go.ChangeAt Go.RowKit
def unM (m:Mem):Mem:={ m with dflt:=jm }
def unT (x:ay):ay:={ x with ah:=x.ah.map unM }
theorem aDa {x:ay} (h:x.ah = []):unT x=x:=by
 cases x;simp only at h;subst h;rfl
theorem aBE (x:ay):lg (unT x)=lg x:=by
 unfold lg unT;simp only [List.map_map]
 rfl
theorem aBF (un:Bool) {m:Mem} (h:jf un m=true):jf un (unM m)=true:=by
 unfold jf at *;simp only [Bool.and_eq_true] at h;show (!(un && (m.akb || m.eG)) && (!(m.akb && m.eG) && (m.eG || iK jm jm)))=true;rw [h.1,h.2.1,(vM jm jm).2 rfl];simp
theorem aBG {x:ay} (h:dY x=true):dY (unT x)=true:=by
 by_cases hk:x.kind=5∨x.kind=6
 ·
  unfold dY at *;simp only [Bool.and_eq_true] at h ⊢;obtain ⟨h1,h2,h3⟩:=h;refine ⟨h1,?_,?_⟩
  ·
   unfold rD at *;rw [if_neg (by omega),if_neg (by omega),if_neg (by omega),if_pos hk] at h2;have e:(unT x).kind=x.kind:=rfl;rw [e,if_neg (by omega),if_neg (by omega),if_neg (by omega),if_pos hk];simp only [Bool.and_eq_true] at h2 ⊢;refine ⟨h2.1,?_⟩;have h4:=h2.2;unfold iQ at *;simp only [Bool.and_eq_true] at h4 ⊢;obtain ⟨h5,h6,h7⟩:=h4;refine ⟨?_,(by have e:(unT x).ah.length=x.ah.length:=(by simp [unT]);rw [e];exact h6),?_⟩
   ·
    rw [List.all_eq_true] at h5 ⊢;intro m hm;obtain ⟨q,hq,rfl⟩:=List.mem_map.1 hm;exact aBF _ (h5 q hq)
   have e:(unT x).ah.map bW=x.ah.map bW:=by show (x.ah.map unM).map bW=_;rw [List.map_map];rfl
   rw [e];exact h7
  rw [← h3]
  congr 1
  unfold gZ unT;rcases hk with hk | hk <;> simp [hk]
 rw [aDa ((U0 h).2.2.2.1 hk)];exact h
theorem aDH (ts:List ay) (t:Int):bM (ts.map unT) t=(bM ts t).map unT:=by
 unfold bM;split
 · rw [List.getElem?_map]
 rfl
theorem aDb (ts:List ay) (x:ay):akK (ts.map unT) (unT x)=akK ts x:=by
 unfold akK;rw [show (unT x).key=x.key from rfl,aDH];cases bM ts x.key <;> rfl
theorem auM (ts:List ay):∀ (l:List ay) (S:List (List UInt8)),lU ts l S=0→lU (ts.map unT) (l.map unT) S=0
 | [],_,_ => by rw [List.map_nil,lU]
 | y :: r,S,h => by
  by_cases h1:dY y=false∨(y.name≠[]∧S.contains y.name=true)
  · rw [JW ts r y S h1] at h;cases h
  cases h2:(lg y).all (inB ts.length) with
  | false => rw [YO ts r y S h1 h2] at h;cases h
  | true =>
   by_cases h3:y.kind=8∧akK ts y=false
   · rw [Lh ts r y S h1 h2 h3] at h;cases h
   rw [Lj ts r y S h1 h2 h3] at h;rw [List.map_cons,Lj (ts.map unT) (r.map unT) (unT y) S ?_ (by rw [aBE,List.length_map];exact h2) (by rw [aDb];exact h3)]
   · exact auM ts r _ h
   rintro (h4 | h4)
   ·
    have:dY y=true:=by
     cases hf:dY y with
     | true => rfl
     | false => exact absurd (.inl hf) h1
    rw [aBG this] at h4;cases h4
   exact h1 (.inr h4)
theorem az7 {ts:List ay} (h:fF ts=0):fF (ts.map unT)=0:=by
 unfold fF at *;rw [List.length_map];by_cases h1:32 < ts.length
 · rw [if_pos h1] at h;cases h
 rw [if_neg h1] at h ⊢;exact auM ts ts [] h
def atV (v:Val):Prop:=v.keys = []∧v.items = []∧v.rest = []∧v.kind≠5
def aqB (ts:List ay):Prop := ∀ x ∈ ts,∀ m ∈ x.ah,m.eG=true→atV m.dflt
inductive aDI (ts:List ay) (x:ay) (t:Int) (v:Val):Prop
 | bool (b:Bool) (hk:x.kind=1) (hv:v = .mk 1 b 0 [] 0 [] [] []) (he:gI ts v t=F6 b)
 | int (n:Int) (hk:x.kind=2) (hv:v = .mk 2 false n [] 0 [] [] []) (he:gI ts v t=akT n) (hn:x.low≤n∧n≤x.high)
 | str (s:List UInt8) (hk:x.kind=3) (hv:v = .mk 3 false 0 s 0 [] [] []) (he:gI ts v t=pJ 9 s.length ++ s) (hn:s.length≤200)
 | enum (n:Int) (hk:x.kind=4) (hv:v = .mk 4 false 0 [] n [] [] []) (he:gI ts v t=pJ 9 n.toNat) (hn:1≤n∧n≤1000)
 | list (k:Int) (hk:x.kind=k) (h7:7≤k∧k≤9) (hv:v = .mk k false 0 [] 0 [] [] []) (he:gI ts v t=pJ 9 0)
theorem zEi {p:Prop} (h:p:=by
 simp [hk] at h2;rw [if_neg (by omega),if_neg (by omega),if_neg (by omega),if_neg (by omega),if_neg (by omega),if_neg (by omega),k2] at hfull;obtain ⟨e1,e2,e3,e4,_⟩:=h2;exact .list x.kind rfl (by omega) (ajU h1 e1 e2 e3 e4 k1 k2 k3) (by rw [hfull];simp [Y0,hk])):p:=h
theorem arz {ts:List ay} (hv:fF ts=0) {v:Val} {t:Int} {x:ay} (hx:bM ts t=some x) (hf:cO ts true v t=true) (h0:atV v):aDI ts x t v:=by
 have hxm:=aoa hx;obtain ⟨h1,h2,h3⟩:=pI hx hf;have hkr:=Us ((ni hv).2 x hxm).1;have hmx:=asx hv hxm;have hfull:=aqO ts v t x hx;unfold aA at h2;unfold jT ig at h3;unfold atT at hfull;obtain ⟨k1,k2,k3,k4⟩:=h0;have hcs:x.kind=1∨x.kind=2∨x.kind=3∨x.kind=4∨x.kind=5∨x.kind=6∨x.kind=7∨x.kind=8∨x.kind=9:=by omega
 rw [h1] at h2 k4;rcases hcs with hk | hk | hk | hk | hk | hk | hk | hk | hk
 ·
  simp [hk] at h2;obtain ⟨e1,e2,e3,e4,e5,e6⟩:=h2;rw [if_pos hk] at hfull;exact .bool v.bool hk (ajU (h1.trans hk) rfl e1 e2 e3 e4 e5 e6) hfull
 ·
  simp [hk] at h2 h3;obtain ⟨e1,e2,e3,e4,e5,e6⟩:=h2;rw [if_neg (by omega),if_pos hk] at hfull;exact .int v.num hk (ajU (h1.trans hk) e1 rfl e2 e3 e4 e5 e6) hfull h3
 ·
  simp [hk] at h2 h3;obtain ⟨e1,e2,e3,e4,e5,e6⟩:=h2;have:=hmx.1 hk;rw [if_neg (by omega),if_neg (by omega),if_pos hk] at hfull;exact .str v.str hk (ajU (h1.trans hk) e1 e2 rfl e3 e4 e5 e6) hfull (by omega)
 ·
  simp [hk] at h2;obtain ⟨e1,e2,e3,e4,e5,e6⟩:=h2;rw [if_neg (by omega),if_neg (by omega),if_pos hk] at h3;simp only [Bool.not_true,Bool.false_and,Bool.and_false,Bool.or_false] at h3;rw [if_neg (by omega),if_neg (by omega),if_neg (by omega),if_pos hk] at hfull;exact .enum v.id hk (ajU (h1.trans hk) e1 e2 e3 rfl e4 e5 e6) hfull (auh hv hxm hk h3)
 · exact absurd hk k4
 ·
  rw [if_neg (by omega),if_neg (by omega),if_neg (by omega),if_neg (by omega),if_pos hk] at h3;rw [k2] at h3;cases hm:dN x v.id <;> rw [hm] at h3 <;> simp at h3
 · exact zEi
 ·
  simp [hk] at h2;rw [if_neg (by omega),if_neg (by omega),if_neg (by omega),if_neg (by omega),if_neg (by omega),if_neg (by omega),k2] at hfull;obtain ⟨e1,e2,e3,e4,_⟩:=h2;exact .list x.kind rfl (by omega) (ajU h1 e1 e2 e3 e4 k1 k2 k3) (by rw [hfull,k1];simp [Y0,hk,asc])
 exact zEi
theorem aBH {ts:List ay} (hv:fF ts=0) {t:Nat} (ht:t < ts.length):jk (jk ts t) 0=jk ts t :=
 (ay8 hv (akP hv ht) (aqC (FP hv) ht)).symm
structure aG (w:World) (L:Nat) (S:Nat→Prop) (v:Value) (xs:List Val):Prop where
 ex:∃ cs:List Value,w.ownsRow L 81 8 v xs.length cs∧∀ (i:Nat) (h:i < xs.length),lD w S xs[i] ((cs.drop (i*8)).take 8)
 sep:∀ k,S k→k < w.heap.size∧v.ownBlock≠some k
section
variable {w w':World} {L:Nat} {S:Nat→Prop} {v:Value} {xs:List Val}
theorem aG.nil (w:World) (L:Nat):aG w L (fun _ => False) (.slice none 0 0) []:=⟨⟨[],World.ownsRow_nil _ _ _ _,fun i h => by simp at h⟩,fun k h => h.elim⟩
theorem qo {base:Nat} {e:TypeId} {size n:Nat} {ys:List Value} (h:w.ownsRow base e size v n ys) (hk:∀ k,v.ownBlock=some k→w'.heap[k]?=w.heap[k]?):w'.ownsRow base e size v n ys:=by
 obtain ⟨h1,h2⟩:=h;refine ⟨h1,?_⟩;rcases h2 with h2 | ⟨g,cap,cur,rfl,hb,hh,h3⟩
 · exact .inl h2
 exact .inr ⟨g,cap,cur,rfl,hb,(hk g rfl).trans hh,h3⟩
theorem aG.keep (h:aG w L S v xs) (hk:∀ k,k < w.heap.size→(S k∨v.ownBlock=some k)→w'.heap[k]?=w.heap[k]?) (hs:w.heap.size≤w'.heap.size):aG w' L S v xs:=by
 obtain ⟨⟨cs,h1,h2⟩,h3⟩:=h;have hl:=fun k (hk:v.ownBlock=some k) => h1.lt k hk;exact ⟨⟨cs,qo h1 fun k hb => hk k (hl k hb).2 (.inr hb),fun i hi => (h2 i hi).keep (fun p hp => World.cell?_of_block (hk p.block (h3 _ hp).1 (.inl hp))) (fun _ h => h)⟩,
  fun k hS => ⟨Nat.lt_of_lt_of_le (h3 k hS).1 hs,(h3 k hS).2⟩⟩
theorem aG.lt (h:aG w L S v xs):∀ k,v.ownBlock=some k→L≤k∧k < w.heap.size:=fun k hk => by
 obtain ⟨⟨cs,h1,_⟩,_⟩:=h;exact h1.lt k hk
theorem aG.form (h:aG w L S v xs):∃ A c,v = .slice A xs.length c:=by
 obtain ⟨⟨cs,h1,_⟩,_⟩:=h;exact jF h1
theorem aG.row (h:aG w L S v xs):lM w (fun k => S k∨v.ownBlock=some k) v xs:=by
 obtain ⟨⟨cs,h1,h2⟩,_⟩:=h;refine ⟨fun i => (cs.drop (i*8)).take 8,?_,fun i hi => (h2 i hi).keep (fun _ _ => rfl) (fun _ h => .inl h)⟩;have h0:=h1;obtain ⟨hl,h3⟩:=h1;rcases h3 with ⟨rfl,hn⟩ | ⟨g,cap,cur,rfl,hb,hh,hc,_⟩
 · exact ⟨none,0,by rw [hn],by omega,.inl hn⟩
 refine ⟨_,cap,rfl,hc,.inr ⟨g,0,rfl,.inr rfl,fun i hi j u hu => ?_⟩⟩;have hj:j < 8:=by
  have:=(List.getElem?_eq_some_iff.1 hu).1;simp at this;omega
 rw [List.getElem?_take_of_lt hj,List.getElem?_drop] at hu;have:=h0.cells (g:=g) rfl (i*8+j) u hu;have e:(⟨g,0,none⟩ : Addr).add (i*8+j)=⟨g,0+i*8+j,none⟩:=by unfold Addr.add;split <;> simp_all
 rwa [e] at this
theorem aG.mono {S':Nat→Prop} (h:aG w L S v xs) (hS:∀ k,S k→S' k) (hd:∀ k,S' k→k < w.heap.size∧v.ownBlock≠some k):aG w L S' v xs:=by
 obtain ⟨⟨cs,h1,h2⟩,_⟩:=h;exact ⟨⟨cs,h1,fun i hi => (h2 i hi).keep (fun _ _ => rfl) hS⟩,hd⟩
theorem lD.len {S:Nat→Prop} {y:Val} {c:List Value} (h:lD w S y c):c.length=8:=by cases h;rfl
theorem Bh.one {S:Nat→Prop} {size n:Nat} {v:Value} {c:Nat→List Value} (h:Bh w S size v n c):v.oneCell'=true:=by obtain ⟨A,cap,rfl,_⟩:=h;rfl
theorem IB.one {S:Nat→Prop} {size n:Nat} {v:Value} {ys:List Value} (h:IB w S size v n ys):v.oneCell'=true:=by obtain ⟨_,A,cap,rfl,_⟩:=h;rfl
theorem lD.one {S:Nat→Prop} {y:Val} {c:List Value} (h:lD w S y c):∀ u ∈ c,u.oneCell'=true:=by
 cases h with
 | mk k b n s id ks is rs vk vi vr ck ci hn hs hl hri h1 _ h2 _ h3 =>
  intro u hu;simp only [List.mem_cons,List.not_mem_nil,or_false] at hu;rcases hu with rfl | rfl | rfl | rfl | rfl | rfl | rfl | rfl <;> first | rfl | exact h1.one | exact h2.one | exact h3.one
end
def bV (r:List Bool):List Value:=r.map Value.bool
theorem akR {w:World} {L1 L2 n1 n2 s1 s2 k:Nat} {e1 e2:TypeId} {v1 v2:Value} {x1 x2:List Value} (h1:w.ownsRow L1 e1 s1 v1 n1 x1) (h2:w.ownsRow L2 e2 s2 v2 n2 x2) (he:e1≠e2) (hk:v1.ownBlock=some k):v2.ownBlock≠some k:=by
 intro hk2;obtain ⟨_,h1⟩:=h1;obtain ⟨_,h2⟩:=h2;rcases h1 with ⟨rfl,_⟩ | ⟨g1,c1,u1,rfl,_,q1,_⟩
 · cases hk
 rcases h2 with ⟨rfl,_⟩ | ⟨g2,c2,u2,rfl,_,q2,_⟩
 · cases hk2
 simp only [Value.ownBlock,Option.some.injEq] at hk hk2;subst hk;subst hk2;rw [q1] at q2;simp only [Option.some.injEq,Obj.cells.injEq] at q2;exact he q2.2.1
theorem akM {w:World} {L n s g k:Nat} {e T:TypeId} {v:Value} {xs:List Value} {cs:Array Value} (h:w.ownsRow L e s v n xs) (hH:Has w g T cs) (he:e≠T) (hk:v.ownBlock=some k):g≠k:=by
 intro e0;subst e0;obtain ⟨_,h⟩:=h;rcases h with ⟨rfl,_⟩ | ⟨g1,c1,u1,rfl,_,q1,_⟩
 · cases hk
 simp only [Value.ownBlock,Option.some.injEq] at hk;subst hk;have hH2:w.heap[g1]?=some (.cells cs T (0,0)):=hH;rw [hH2] at q1;simp only [Option.some.injEq,Obj.cells.injEq] at q1;exact he q1.2.1.symm
def TabAt (w:World) (L:Nat) (v:Value) (M:Tab):Prop :=
 ∃ us:List Value,w.ownsRow L 125 1 v M.length us∧(∀ (i:Nat) (h:i < M.length),∃ u,us[i]?=some u∧w.ownsRow L 4 1 u M[i].length (bV M[i])) ∧
  (∀ (i j:Nat) u u',i≠j→us[i]?=some u→us[j]?=some u'→∀ k,u.ownBlock=some k→u'.ownBlock≠some k)
theorem TabAt.heap {w w':World} {L:Nat} {v:Value} {M:Tab} (h:TabAt w L v M) (hk:∀ k:Nat,L≤k→k < w.heap.size→w'.heap[k]?=w.heap[k]?):TabAt w' L v M:=by
 obtain ⟨us,h1,h2,h3⟩:=h;exact ⟨us,DI h1 hk,fun i hi => by obtain ⟨u,hu,h4⟩:=h2 i hi;exact ⟨u,hu,DI h4 hk⟩,h3⟩
theorem Kept.tab {w:World} {L:Nat} {v:Value} {M:Tab} (h:TabAt w L v M):Kept (fun w => TabAt w L v M) w L w.heap.size:=⟨h,fun _ hk => h.heap hk,Nat.le_refl _⟩
theorem TabAt.form {w:World} {L:Nat} {v:Value} {M:Tab} (h:TabAt w L v M):∃ A c,v = .slice A M.length c:=by
 obtain ⟨us,h1,_⟩:=h;exact jF h1
structure aso (w:World) (L:Nat) (v:Value) (M:Tab) (rb i:Nat) (r:List Bool) (u:Value):Prop where
 cell:w.cell? ⟨rb,i,none⟩=some u
 free:w.frozen? ⟨rb,i,none⟩=false
 own:w.ownsRow L 4 1 u r.length (bV r)
 ne:∀ k,u.ownBlock=some k→rb≠k
 put:∀ (w1:World) (u':Value) (r':List Bool),w1.ownsRow L 4 1 u' r'.length (bV r')→w.heap.size≤w1.heap.size→(∀ k:Nat,L≤k→k < w.heap.size→u.ownBlock≠some k→w1.heap[k]?=w.heap[k]?)→(∀ k,u'.ownBlock=some k→u.ownBlock=some k∨w.heap.size≤k)→TabAt (w1.setCell ⟨rb,i,none⟩ u') L v (M.set i r')
 set:∀ (b c k:Nat) (x:Bool),u = .slice (some ⟨b,0,none⟩) r.length c→TabAt (w.setCell ⟨b,k,none⟩ (.bool x)) L v (M.set i (r.set k x))
theorem aDc (r:List Bool) (k:Nat) (x:Bool):(bV r).set k (.bool x)=bV (r.set k x):=by unfold bV;rw [List.map_set]
theorem TabAt.row {w:World} {L n c rb:Nat} {M:Tab} (h:TabAt w L (.slice (some ⟨rb,0,none⟩) n c) M) {i:Nat} (hi:i < M.length):∃ u,aso w L (.slice (some ⟨rb,0,none⟩) n c) M rb i M[i] u:=by
 obtain ⟨us,h1,h2,h3⟩:=h;obtain ⟨A,c',e⟩:=jF h1;injection e with _ e2 _;have hn:n=M.length:=by omega
 subst hn;clear e2;obtain ⟨u,hu,h4⟩:=h2 i hi;have hlt:=h1.lt rb rfl;have Wn:us.length=M.length:=by have:=h1.1;omega
 have hne:∀ k,u.ownBlock=some k→rb≠k:=fun k hk e0 => akR h4 h1 (by decide) hk (by rw [← e0];rfl);refine ⟨u,(h1.cellAt i (by omega)).trans hu,h1.frozenAt i,h4,hne,?_,?_⟩
 ·
  intro w1 u' r' hown hsz hk hnew;have h1':w1.ownsRow L 125 1 (.slice (some ⟨rb,0,none⟩) M.length c) M.length us:=qo h1 fun k hkk => by
   simp only [Value.ownBlock,Option.some.injEq] at hkk;subst hkk;exact hk _ hlt.1 hlt.2 (fun e0 => hne _ e0 rfl)
  have hrb:∀ k,u'.ownBlock=some k→rb≠k:=fun k hk e0 => akR hown h1' (by decide) hk (by rw [← e0];rfl);have h5:=(h1'.stored i u').1;refine ⟨us.set i u',by rw [List.length_set];exact h5,fun j hj => ?_,?_⟩
  ·
   rw [List.length_set] at hj;by_cases e0:j=i
   ·
    subst e0;refine ⟨u',by rw [List.getElem?_set_self (by omega)],?_⟩;rw [List.getElem_set_self];exact qo hown fun k hk2 => Below.heap_setCell w1 ⟨rb,j,none⟩ u' k (fun e => hrb k hk2 e.symm)
   obtain ⟨uj,huj,hoj⟩:=h2 j hj;refine ⟨uj,by rw [List.getElem?_set_ne (fun e => e0 e.symm)];exact huj,?_⟩;rw [List.getElem_set_ne (fun e => e0 e.symm)];refine qo hoj fun k hk2 => (Below.heap_setCell w1 ⟨rb,i,none⟩ u' k ?_).trans (hk k (hoj.lt k hk2).1 (hoj.lt k hk2).2 (fun e => h3 i j u uj (fun e => e0 e.symm) hu huj k e hk2));exact fun e => akR hoj h1 (by decide) hk2 (by show some rb=some k;rw [e])
  have hcase:∀ (a:Nat) (ua:Value),(us.set i u')[a]?=some ua→(a=i∧ua=u')∨(a≠i∧us[a]?=some ua):=by
   intro a ua ha;by_cases e0:a=i
   ·
    subst e0;rw [List.getElem?_set_self (by omega)] at ha;injection ha with ha;exact .inl ⟨rfl,ha.symm⟩
   rw [List.getElem?_set_ne (fun e => e0 e.symm)] at ha;exact .inr ⟨e0,ha⟩
  intro a b ua ub hab ha hb k hka hkb;rcases hcase a ua ha with ⟨rfl,rfl⟩ | ⟨ha1,ha2⟩ <;> rcases hcase b ub hb with ⟨rfl,rfl⟩ | ⟨hb1,hb2⟩
  · exact hab rfl
  ·
   have hjb:b < M.length:=by have:=(List.getElem?_eq_some_iff.1 hb2).1;omega
   obtain ⟨uj,huj,hoj⟩:=h2 b hjb;rw [hb2] at huj;injection huj with huj;subst huj;rcases hnew k hka with h6 | h6
   · exact h3 a b u ub hab hu hb2 k h6 hkb
   have:=(hoj.lt k hkb).2;omega
  ·
   have hja:a < M.length:=by have:=(List.getElem?_eq_some_iff.1 ha2).1;omega
   obtain ⟨uj,huj,hoj⟩:=h2 a hja;rw [ha2] at huj;injection huj with huj;subst huj;rcases hnew k hkb with h6 | h6
   · exact h3 b a u ua (fun e => hab e.symm) hu ha2 k h6 hka
   have:=(hoj.lt k hka).2;omega
  exact h3 a b ua ub hab ha2 hb2 k hka hkb
 intro b cc k x hu0;subst hu0;have hb:=hne b rfl;refine ⟨us,?_,fun j hj => ?_,h3⟩
 ·
  rw [List.length_set];exact ownsRow_setCell_other h1 (a:=⟨b,k,none⟩) (by show some rb≠some b;intro e;injection e with e;exact hb e) _
 rw [List.length_set] at hj;by_cases e0:j=i
 ·
  subst e0;refine ⟨_,hu,?_⟩;have h5:=(h4.stored k (.bool x)).1;rw [aDc] at h5;rw [List.getElem_set_self,List.length_set];exact h5
 obtain ⟨uj,huj,hoj⟩:=h2 j hj;refine ⟨uj,huj,?_⟩;rw [List.getElem_set_ne (fun e => e0 e.symm)];exact ownsRow_setCell_other hoj (a:=⟨b,k,none⟩) (fun e => h3 i j _ uj (fun e => e0 e.symm) hu huj b rfl e) _
theorem aso.pos {w:World} {L rb i:Nat} {v u:Value} {M:Tab} {r:List Bool} (h:aso w L v M rb i r u) {k:Nat} (hk:k < r.length):∃ b c,u = .slice (some ⟨b,0,none⟩) r.length c∧L≤b∧b < w.heap.size∧rb≠b∧w.cell? ⟨b,k,none⟩=some (.bool r[k])∧w.frozen? ⟨b,k,none⟩=false:=by
 obtain ⟨g,c,rfl,h1,h2,_,h3⟩:=Du h.own (by omega);exact ⟨g,c,rfl,h1,h2,h.ne g rfl,h3 k _ (by simp [bV,List.getElem?_map,List.getElem?_eq_getElem hk]),h.own.frozenAt k⟩
theorem aso.form {w:World} {L rb i:Nat} {v u:Value} {M:Tab} {r:List Bool} (h:aso w L v M rb i r u):∃ A c,u = .slice A r.length c:=jF h.own
theorem TabAt.new {w:World} {L n:Nat} {v:Value} (h:w.ownsRow L 125 1 v n (List.replicate n (.slice none 0 0))):TabAt w L v (List.replicate n []):=by
 refine ⟨_,by rw [List.length_replicate];exact h,fun i hi => ?_,fun i j u u' _ hu _ k hk => ?_⟩
 ·
  rw [List.length_replicate] at hi;refine ⟨.slice none 0 0,by simp [hi],?_⟩;rw [List.getElem_replicate];exact World.ownsRow_nil _ _ _ _
 have:=List.mem_of_getElem? hu;rw [List.mem_replicate] at this;rw [this.2] at hk;cases hk
theorem asU (z:Value) (n:Nat) (hz:z.cells = #[z]):(madeCells z.cells (n*1)).toList=List.replicate n z:=by
 rw [hz,Nat.mul_one];apply List.ext_getElem?
 intro i;simp [madeCells];rcases Nat.lt_or_ge i n with h | h
 · simp [h,Nat.mod_one]
 simp [h]
def Ci:List UInt8→Nat→Nat
 | [],n => n
 | b :: r,n => Ci r (n*256+b.toNat)
theorem YC (n:Nat) (b:UInt8) (k:Nat) (h:n < 256 ^ k) (hk:k < 8):bits .or .u64 (IntKind.u64.wrap ((n:Int)*256)) (b.toNat:Int)=((n*256+b.toNat:Nat):Int)∧n*256+b.toNat < 256 ^ (k+1):=by
 have hb:=b.toNat_lt;have h7:256 ^ k≤256 ^ 7:=Nat.pow_le_pow_right (by omega) (by omega);have e7:(256:Nat) ^ 7=72057594037927936:=by decide
 refine ⟨?_,by rw [Nat.pow_succ];omega⟩;have e:IntKind.u64.wrap ((n:Int)*256)=((n*256:Nat):Int):=by rw [IntKind.wrap_u64];omega
 rw [e,u64_or_nat _ _ (by omega) (by omega)]
 congr 1
 have:=Nat.two_pow_add_eq_or_of_lt (show b.toNat < 2 ^ 8 from hb) n;rw [Nat.mul_comm n,show (256:Nat)=2 ^ 8 from rfl,← this]
def SB (l:List UInt8):Value:=.string ⟨l.toArray⟩
def jQ (w:World) (b:Nat):Prop := ∀ c f,w.heap[b]?≠some (.cells c 3 f)
structure cZ (w:World) (gr:Nat) (w':World):Prop where
 low:Below gr w w'
 block:∀ b,gr < b→b < w.heap.size→jQ w b→w'.heap[b]?=w.heap[b]?
section
variable {w w1 w':World} {gr:Nat}
theorem cZ.refl (w:World) (gr:Nat):cZ w gr w:=⟨Below.refl _ _,fun _ _ _ _ => rfl⟩
theorem cZ.size (h:cZ w gr w'):w.heap.size≤w'.heap.size:=h.low.size
theorem cZ.IG (h:cZ w gr w') {b:Nat} (h1:gr < b) (h2:b < w.heap.size) (h3:jQ w b):jQ w' b:=fun c f e => h3 c f (by rw [← h.block b h1 h2 h3];exact e)
theorem cZ.trans (h:cZ w gr w1) (h':cZ w1 gr w'):cZ w gr w' :=
 ⟨h.low.trans h'.low,fun b h1 h2 h3 => (h'.block b h1 (Nat.lt_of_lt_of_le h2 h.size) (h.IG h1 h2 h3)).trans (h.block b h1 h2 h3)⟩
theorem cZ.setCell (w:World) (gr i:Nat) (v:Value):cZ w gr (w.setCell ⟨gr,i,none⟩ v) :=
 ⟨(Below.refl gr w).setCell (Nat.le_refl gr) v,fun b h1 _ _ => Below.heap_setCell w _ v b (by show b≠gr;omega)⟩
theorem cZ.grown {base n:Nat} {v:Value} {xs:List Value} (hg:w.grownBy w' v.ownBlock) (ho:w.ownsRow base 3 1 v n xs) (hb:gr < base) (hs:gr≤w.heap.size):cZ w gr w':=by
 have hlt:=ho.lt;refine ⟨(Below.refl gr w).grown hg hs fun k hk => by have:=hlt k hk;omega,fun b _ h2 h3 => hg.block b h2 fun e => ?_⟩;rcases ho.2 with ⟨rfl,_⟩ | ⟨g,cap,cur,rfl,_,hh,_⟩
 · simp [Value.ownBlock] at e
 simp only [Value.ownBlock,Option.some.injEq] at e;subst e;exact h3 _ _ hh
end
def sQ (w w':World) (b:Nat):Prop:=w.heap.size≤b∧b < w'.heap.size∧jQ w' b
theorem sQ.keep {w w1 w2:World} {gr:Nat} (hg:gr < w.heap.size) (h:cZ w1 gr w2) {b:Nat} (hb:sQ w w1 b):w2.heap[b]?=w1.heap[b]?∧sQ w w2 b :=
 ⟨h.block b (by have:=hb.1;omega) hb.2.1 hb.2.2,hb.1,Nat.lt_of_lt_of_le hb.2.1 h.size,h.IG (by have:=hb.1;omega) hb.2.1 hb.2.2⟩
theorem sQ.later {w0 w w':World} (hs:w0.heap.size≤w.heap.size) {b:Nat} (hb:sQ w w' b):sQ w0 w' b:=⟨Nat.le_trans hs hb.1,hb.2⟩
def zq (n:Int):Value:=.int .i64 n
end Go.Proofs.YtlamhkffnlgofaaGreatDoor
