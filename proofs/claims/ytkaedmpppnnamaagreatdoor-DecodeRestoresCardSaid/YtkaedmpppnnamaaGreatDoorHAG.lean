/- Plain laws of varints, for the seats whose code has no GetAl, and what else is used with it. No condition. -/
import Derived.Test.YtkaedmpppnnamaaGreatDoorHAF
import Derived.Maps.AppendAt
import Derived.Laws.OwnMore
set_option maxHeartbeats 1000000
set_option maxRecDepth 100000
namespace Go.Proofs.YtkaedmpppnnamaaGreatDoor
open ChangeShapes WideShapes ChangeAt RowKit
theorem qw (f n:Nat):(pJ f n).length<=f+1:=by
 induction f generalizing n with
 | zero => simp [pJ]
 | succ f ih =>
  rw [pJ];split
  . simp
  have:=ih (n / 128);simp;omega
theorem ag3:∀ (f i m acc:Nat) (rest:List UInt8),f=9 - i->i<=9->m*128 ^ i < 18446744073709551616->(0 < i->m≠0)->ru i acc (pJ f m ++ rest)=(acc+m*128 ^ i,i+(pJ f m).length,0):=by
 intro f
 induction f with
 | zero =>
  intro i m acc rest hf hi hm h0;obtain rfl:i=9:=by omega
  have e:(128:Nat) ^ 9=9223372036854775808:=by decide
  rw [e] at hm;have hm2:m < 2:=by omega
  have e2:(UInt8.ofNat m).toNat=m:=by simp;omega
  rw [pJ,List.singleton_append,Ed 9 acc _ _ (by omega) (by omega) (by omega),e2]
  rfl
 | succ f ih =>
  intro i m acc rest hf hi hm h0;by_cases h:m < 128
  .
   have e2:(UInt8.ofNat m).toNat=m:=by simp;omega
   rw [pJ,o_ h,List.singleton_append,Ed i acc _ _ (by omega) (by omega) (by omega),e2]
   rfl
  have e2:(UInt8.ofNat (m % 128+128)).toNat=m % 128+128:=by simp;omega
  rw [pJ,gB h,Qu,Gx i acc _ _ (by omega) (by omega),e2,ih (i+1) (m / 128) _ rest (by omega) (by omega) (Wp m i hm) (by omega)];have e3:(m % 128+128) % 128=m % 128:=by omega
  rw [e3];have e4:acc+m % 128*128 ^ i+m / 128*128 ^ (i+1)=acc+m*128 ^ i:=by
   rw [T_,Us,show m / 128*(128 ^ i*128)=(m / 128*128)*128 ^ i from by rw [QH (128 ^ i),Nat.mul_assoc],<- Nat.add_mul]
   congr 2;omega
  rw [e4,z_]
  congr 2
  omega
theorem aeu (n:Nat) (hn:oV n) (rest:List UInt8):ru 0 0 (pJ 9 n ++ rest)=(n,(pJ 9 n).length,0):=by
 rw [ag3 9 0 n 0 rest rfl (by omega) (by rw [Nat.pow_zero,Nat.mul_one];exact hn) (by omega)];simp
def jK (p:List UInt8):List UInt8:=pJ 9 p.length ++ p
def gW (f:kP):List UInt8:=pJ 9 (2*f.id+(if f.akb then 1 else 0)) ++ jK f.data
def inter:List (List UInt8)->List (List UInt8)->List (List UInt8)
 | a :: r,b :: s => a :: b :: inter r s
 | _,_ => []
def zF (x:ay) (items:List Val) (ps:List (List UInt8)) (rest:List Raw) (id:Nat):List kP :=
 (match dN x id with
  | some i => (match x.ah[i]? with
   | some m => if m.eG && iK (items.getD i jm) m.dflt then [] else [⟨id,m.akb,ps.getD i []⟩]
   | none => [])
  | none => []) ++ (rest.filter (fun r => r.1 == (id:Int))).map (fun r => ⟨id,false,r.2⟩)
def Dz (x:ay) (items:List Val) (ps:List (List UInt8)) (rest:List Raw) (n:Nat):List kP:=(List.range' 1 n).flatMap (zF x items ps rest)
def Ce (x:ay) (v:Val) (K I:Int->List (List UInt8)) (Z:List Mem->List (List UInt8)) (H:Int->List UInt8):List UInt8 :=
 if x.kind=1 then (if v.bool then [1] else [])
 else if x.kind=2 then iq 8 (zig v.num).toNat []
 else if x.kind=3 then v.str
 else if x.kind=4 then iq 8 v.id.toNat []
 else if x.kind=9 then (if v.items.length=0 then [] else 1 :: H x.elem)
 else if x.kind=6 then pJ 9 v.id.toNat ++ (match v.rest with
  | r :: _ => r.2
  | [] => match dN x v.id with
   | some i => (match x.ah[i]? with | some m => H m.ty | none => [])
   | none => [])
 else if x.kind=7 then (I x.elem).flatMap jK
 else if x.kind=8 then (inter (K x.key) (I x.elem)).flatMap jK
 else (Dz x v.items (Z x.ah) v.rest 1000).flatMap gW
mutual
def fE (ts:List ay):Val->Int->List UInt8
 | .mk k b n s id ks is rs,t => match bM ts t with
  | none => []
  | some x => Ce x (.mk k b n s id ks is rs) (fun t => lu ts ks t) (fun t => lu ts is t) (fun ms => uw ts is ms) (fun t => SQ ts is t)
def lu (ts:List ay):List Val->Int->List (List UInt8)
 | [],_ => []
 | y :: r,t => fE ts y t :: lu ts r t
def uw (ts:List ay):List Val->List Mem->List (List UInt8)
 | y :: r,m :: ms => fE ts y m.ty :: uw ts r ms
 | [],_ => []
 | _ :: _,[] => []
def SQ (ts:List ay):List Val->Int->List UInt8
 | [],_ => []
 | y :: _,t => fE ts y t
end
def Ia (x:ay) (v:Val) (I:Int->Nat) (Z:List Mem->Nat) (H:Int->Nat):Nat :=
 if x.kind=5 then Z x.ah
 else if x.kind=6 then (match dN x v.id with
  | some i => (match x.ah[i]? with | some m => H m.ty | none => 0)
  | none => 0)
 else max (I x.elem) (if 0 < v.keys.length then 1 else 0)
mutual
def jV (ts:List ay):Val->Int->Nat
 | .mk k b n s id ks is rs,t => match bM ts t with
  | none => 0
  | some x => 1+Ia x (.mk k b n s id ks is rs) (fun t => oI ts is t) (fun ms => qZ ts is ms) (fun t => LC ts is t)
def oI (ts:List ay):List Val->Int->Nat
 | [],_ => 0
 | y :: r,t => max (jV ts y t) (oI ts r t)
def qZ (ts:List ay):List Val->List Mem->Nat
 | y :: r,m :: ms => max (if m.eG && iK y m.dflt then 0 else jV ts y m.ty) (qZ ts r ms)
 | [],_ => 0
 | _ :: _,[] => 0
def LC (ts:List ay):List Val->Int->Nat
 | [],_ => 0
 | y :: _,t => jV ts y t
end
theorem tu (ts:List ay) (v:Val) (t:Int) (x:ay) (h:bM ts t=some x):fE ts v t=Ce x v (fun t => lu ts v.keys t) (fun t => lu ts v.items t) (fun ms => uw ts v.items ms) (fun t => SQ ts v.items t):=by
 cases v;rw [fE,h];rfl
theorem BH (ts:List ay) (v:Val) (t:Int) (x:ay) (h:bM ts t=some x):jV ts v t=1+Ia x v (fun t => oI ts v.items t) (fun ms => qZ ts v.items ms) (fun t => LC ts v.items t):=by
 cases v;rw [jV,h];rfl
theorem tJ (ts:List ay) (t:Int):∀ l:List Val,lu ts l t=l.map (fun y => fE ts y t)
 | [] => by rw [lu];rfl
 | y :: r => by rw [lu,tJ ts t r];rfl
theorem NK (ts:List ay) (l:List Val) (t:Int) (h:0 < l.length):SQ ts l t=fE ts l[0] t:=by
 cases l with
 | nil => simp at h
 | cons y r => rw [SQ];rfl
theorem Jy (ts:List ay) (t:Int):∀ (l:List Val) (y:Val),y ∈ l->jV ts y t<=oI ts l t
 | [],y,h => by simp at h
 | a :: r,y,h => by
  rw [oI];rcases N_.1 h with rfl | h
  . omega
  have:=Jy ts t r y h;omega
theorem Wq (ts:List ay):∀ (l:List Val) (ms:List Mem),l.length=ms.length->(uw ts l ms).length=ms.length
 | [],[],_ => by simp [uw]
 | [],m :: ms,h => by simp at h
 | y :: r,[],h => by simp at h
 | y :: r,m :: ms,h => by rw [uw,z_,Wq ts r ms (by simpa using h),z_]
theorem NG (ts:List ay):∀ (l:List Val) (ms:List Mem) (k:Nat) (h:k < l.length) (h2:k < ms.length),(uw ts l ms).getD k []=fE ts l[k] ms[k].ty
 | [],_,k,h,_ => by simp at h
 | _ :: _,[],k,_,h2 => by simp at h2
 | y :: r,m :: ms,0,_,_ => by rw [uw];rfl
 | y :: r,m :: ms,k+1,h,h2 => by
  rw [uw,List.getD_cons_succ,NG ts r ms k (by simpa using h) (by simpa using h2)];rfl
theorem Sj (ts:List ay):∀ (l:List Val) (ms:List Mem) (k:Nat) (h:k < l.length) (h2:k < ms.length),(ms[k].eG && iK l[k] ms[k].dflt)=false->jV ts l[k] ms[k].ty<=qZ ts l ms
 | [],_,k,h,_,_ => by simp at h
 | _ :: _,[],k,_,h2,_ => by simp at h2
 | y :: r,m :: ms,0,_,_,hd => by
  rw [qZ];simp only [QA] at hd ⊢;rw [gB (by simp [hd])];omega
 | y :: r,m :: ms,k+1,h,h2,hd => by
  rw [qZ];have:=Sj ts r ms k (by simpa using h) (by simpa using h2) (by simpa using hd);simp only [S_];omega
theorem LD (n:Nat) (hn:oV n) (r:List UInt8):xM (pJ 9 n ++ r)=some (n,r):=by
 unfold xM;rw [aeu n hn r,o_ rfl];simp
theorem Uh (p r:List UInt8) (hp:oV p.length):CJ (jK p ++ r)=some (p,r):=by
 unfold CJ jK;rw [List.append_assoc,LD _ hp];simp
theorem YQ (n:Nat):pJ 9 n≠[]:=by
 rw [pJ];split <;> simp
theorem PG (p:List UInt8):jK p≠[]:=by
 unfold jK;intro h;exact YQ _ (List.append_eq_nil_iff.1 h).1
theorem LG (f:kP):gW f≠[]:=by
 unfold gW;intro h;exact YQ _ (List.append_eq_nil_iff.1 h).1
theorem QW:∀ (l:List (List UInt8)) (f:Nat) (acc:List (List UInt8)),(∀ p ∈ l,oV p.length)->(l.flatMap jK).length<=f->zf f (l.flatMap jK) acc=some (acc ++ l)
 | [],f,acc,_,_ => by cases f <;> simp [zf]
 | p :: l,0,acc,_,h => by
  have:=List.length_pos_iff.2 (PG p);rw [B_,h_] at h;omega
 | p :: l,f+1,acc,hu,h => by
  have h1:=List.length_pos_iff.2 (PG p);rw [B_] at h ⊢;rw [h_] at h;have hne:jK p ++ l.flatMap jK≠[]:=fun e => PG p (List.append_eq_nil_iff.1 e).1;rw [zf,gB hne,Uh p _ (hu p (by simp))];simp only;rw [QW l f _ (fun q hq => hu q (by simp [hq])) (by omega)];simp
theorem QX (l:List (List UInt8)) (hu:∀ p ∈ l,oV p.length):BM (l.flatMap jK)=some l:=by
 have:=QW l _ [] hu (b_ _);simpa [BM] using this
def Ii:Nat->List kP->Prop
 | _,[] => True
 | last,f :: r => last < f.id/\f.id<=1000/\oV f.data.length/\Ii f.id r
theorem Ou:∀ (l:List kP) (f last:Nat) (acc:List kP),Ii last l->(l.flatMap gW).length<=f->xQ f (l.flatMap gW) last acc=some (acc ++ l)
 | [],f,last,acc,_,_ => by cases f <;> simp [xQ]
 | p :: l,0,last,acc,_,h => by
  have:=List.length_pos_iff.2 (LG p);rw [B_,h_] at h;omega
 | p :: l,f+1,last,acc,ha,h => by
  have h1:=List.length_pos_iff.2 (LG p);obtain ⟨a1,a2,a3,a4⟩:=ha;rw [B_] at h ⊢;rw [h_] at h;have hne:gW p ++ l.flatMap gW≠[]:=fun e => LG p (List.append_eq_nil_iff.1 e).1;have hn:xM (gW p ++ l.flatMap gW)=some (2*p.id+(if p.akb then 1 else 0),jK p.data ++ l.flatMap gW):=by
   unfold gW;rw [List.append_assoc,LD _ (by unfold oV;split <;> omega)]
  rw [xQ,gB hne,hn];have hd:(2*p.id+(if p.akb then 1 else 0)) / 2=p.id:=by split <;> omega
  have hm:decide ((2*p.id+(if p.akb then 1 else 0)) % 2=1)=p.akb:=by
   cases hc:p.akb <;> simp <;> omega
  simp only [hd,hm,Uh _ _ a3];rw [gB (by omega),Ou l f _ _ a4 (by omega)];simp
theorem Ov (l:List kP) (ha:Ii 0 l):Dx (l.flatMap gW)=some l:=by
 have:=Ou l _ 0 [] ha (b_ _);simpa [Dx] using this
theorem Ws (id:Nat) (h1:1<=id) (h2:id<=1000) (r:List UInt8):Jv (pJ 9 id ++ r)=some (id,r):=by
 unfold Jv;rw [LD id (by unfold oV;omega)];simp only;rw [gB (by omega)]
theorem DK {f:Nat->mX} : ∀ (vs:List Val) (i:Nat) (acc:List Val),(∀ j (h:j < vs.length),f (i+j) = .ok vs[j])->nR f vs.length i acc = .ok (acc ++ vs)
 | [],i,acc,_ => by simp [nR]
 | v :: r,i,acc,h => by
  have h0:=h 0 (by simp);simp only [QB,QA] at h0;rw [z_,nR,h0];simp only;rw [DK r (i+1) (acc ++ [v]) (fun j hj => by
   have:=h (j+1) (by simpa using hj);rw [show i+1+j=i+(j+1) by omega,this];rfl)]
  simp
theorem LH:∀ (a b:List (List UInt8)),a.length=b.length->(inter a b).length=2*a.length
 | [],[],_ => rfl
 | [],b :: s,h => by simp at h
 | a :: r,[],h => by simp at h
 | a :: r,b :: s,h => by rw [inter,z_,z_,LH r s (by simpa using h),z_];omega
theorem PI:∀ (a b:List (List UInt8)) (k:Nat) (h:k < a.length) (h2:k < b.length),(inter a b).getD (2*k) []=a[k]/\(inter a b).getD (2*k+1) []=b[k]
 | [],_,k,h,_ => by simp at h
 | _ :: _,[],k,_,h2 => by simp at h2
 | a :: r,b :: s,0,_,_ => ⟨rfl,rfl⟩
 | a :: r,b :: s,k+1,h,h2 => by
  rw [inter,show 2*(k+1)=2*k+1+1 by omega];exact PI r s k (by simpa using h) (by simpa using h2)
theorem DL {l:List (List UInt8)} {p:List UInt8} (h:p ∈ l):p.length<=(l.flatMap jK).length:=by
 induction l with
 | nil => simp at h
 | cons a r ih =>
  rw [B_,h_];rcases N_.1 h with rfl | h
  . unfold jK;rw [h_];omega
  have:=ih h;omega
theorem Jf {l:List kP} {f:kP} (h:f ∈ l):f.data.length<=(l.flatMap gW).length:=by
 induction l with
 | nil => simp at h
 | cons a r ih =>
  rw [B_,h_];rcases N_.1 h with rfl | h
  . unfold gW jK;rw [h_,h_];omega
  have:=ih h;omega
theorem ach (k n:Nat) (l:List UInt8) (h:0 < n) (hk:k < 8):iq (8-k) n l=iq (8-(k+1)) (n / 256) (UInt8.ofNat (n % 256) :: l):=by
 rw [show 8 - k=(8 - (k+1))+1 from by omega,iq,gB (by omega)]
theorem aci (m k:Nat) (h:m*256 ^ k < 18446744073709551616):m / 256*256 ^ (k+1) < 18446744073709551616:=by
 have h2:m / 256*256<=m:=Nat.div_mul_le_self _ _
 calc m / 256*256 ^ (k+1)=(m / 256*256)*256^k:=by rw [T_,QH (256^k),Nat.mul_assoc]
  _<=m*256 ^ k:=P_ _ h2
  _ < _:=h
theorem ZV (m k:Nat) (h:m*256 ^ k < 18446744073709551616):IntKind.u64.wrap ((m:Int) / 256)=(m:Int) / 256:=by
 have:m<=m*256 ^ k:=Nat.le_mul_of_pos_right _ (Nat.pow_pos (by omega));rw [H_];omega
theorem Wu (n:Nat) (hn:oV n) (w:World) :
  Calls Tryz.prog 44 #[.int .u64 n] w (RT w (.string ⟨(iq 8 n []).toArray⟩)):=by
 go_enter Tryz.func44,Tryz.ntmps44
 go_wp2
 go_loopw [0,3] (fun a v wr => ∃ k m:Nat,∃ l:List UInt8,k<=8/\l.length=k/\a = .int .u64 m/\v = .string ⟨l.toArray⟩/\iq 8 n []=iq (8-k) m l/\Below w.heap.size w wr/\Hid (m*256 ^ k < 18446744073709551616))
  (fun a _ _ => (intOf a).toNat)
 case atStart => exact ⟨0,n,[],by omega,rfl,rfl,rfl,rfl,g_ _ _,by rw [Nat.pow_zero,Nat.mul_one];exact hn⟩
 case round =>
  obtain ⟨k,m,l,hk,hl,rfl,rfl,hp,hb,hm⟩:=hrel;have Hl:=hiQ hl;have Hp:=hiQ hp;clear hl hp;by_cases hlt:0 < m
  .
   have hk9:k < 8:=by
    rcases QC k 8 with h | h
    . exact h
    obtain rfl:k=8:=by omega
    have:=hm.out;omega
   have hq:IntKind.u64.wrap ((m:Int) / 256)=(m:Int) / 256:=ZV m k hm.out;have hcv:(convert 25 9 (.slice (some ⟨wr.heap.size,0,none⟩) 1 1)).run Tryz.prog (wr.alloc (.cells #[.int .u8 ((m:Int) % 256)] 5)) = .ok (.string ⟨[UInt8.ofNat (m % 256)].toArray⟩) (wr.alloc (.cells #[.int .u8 ((m:Int) % 256)] 5)):=by
    refine QM 25 9 5 Tryz.underlying25 Tryz.underlying5 Tryz.underlying9 _ _ _ _ _ _ _ _ [UInt8.ofNat (m % 256)] (ate _ _) rfl (fun i x h => ?_);rw [ZC _ (by omega) (by omega)];have e:((m:Int) % 256).toNat=m % 256:=by omega
    rw [e]
    match i,h with
    | 0,h =>
     simp at h;simp [h]
   have mO:l.length<=8:=by have:=Hl.out;omega
   go_wp2
   go_roundw
   case rel =>
    refine ⟨k+1,m/256,UInt8.ofNat (m % 256) :: l,by omega,by simp [Hl.out],by go_num,congrArg Value.string (qO [_] l),?_,hb.alloc hb.size _,aci m k hm.out⟩;rw [Hp.out,ach k m l hlt hk9]
   case measure => simp [intOf];omega
  go_wp2
  go_ret;refine ⟨?_,hb⟩;rw [Hp.out,Ug _ _ _ hlt];rfl
theorem LP {a b:List UInt8} (h:a=b):Ending.returned (.string ⟨a.toArray⟩)=Ending.returned (.string ⟨b.toArray⟩):=by rw [h]
theorem GY (p:List UInt8) (w:World) (hp:p.length<=140737488355328) :
  Calls Tryz.prog 47 #[.string ⟨p.toArray⟩] w (RT w (.string ⟨(jK p).toArray⟩)):=by
 have hw:IntKind.u64.wrap (p.length:Int)=(p.length:Int):=by rw [H_];omega
 go_enter Tryz.func47,Tryz.ntmps47
 go_wp2_with fail;((with_reducible refine (Jw p.length (by unfold oV;omega) _).mono ?_);rintro e w1 ⟨rfl,hb⟩);have hl:=qw 9 p.length;obtain ⟨l,HL⟩ : ∃ l,Hid (l=pJ 9 p.length):=⟨_,rfl⟩
 rw [<- HL.out] at hl ⊢;go_wp2_with fail;go_ret;refine ⟨?_,hb⟩;rw [qO];exact LP (by rw [HL.out];rfl)
theorem zEr {p:Prop} (h:p:=by
 rw [<- HL.out] at hl ⊢;go_wp2_with fail;((with_reducible refine (HP.out _).mono ?_);rintro e w2 ⟨rfl,hb2⟩);have hb3:=hb.trans (hb2.mono hb.size);clear hb hb2;go_wp2_with fail;go_ret;refine ⟨?_,hb3⟩;rw [qO];exact LP (by rw [HL.out,HL2.out,HD.out];rfl)):p:=h
theorem EJ (f:kP) (w:World) (hi:f.id<=1000) (hp:f.data.length<=140737488355328) :
  Calls Tryz.prog 48 #[.int .i64 f.id,.bool f.akb,.string ⟨f.data.toArray⟩] w (RT w (.string ⟨(gW f).toArray⟩)):=by
 obtain ⟨id,akb,p⟩:=f;simp only at hi hp ⊢;have hq:=qw 9 p.length;have hpl:(jK p).length<=140737488355338:=by unfold jK;rw [h_];omega
 have HP:=fun W => GY p W hp;have hw1:IntKind.i64.wrap (2*(id:Int))=((2*id:Nat):Int):=by rw [Qz];omega
 have hw2:IntKind.u64.wrap ((2*id:Nat):Int)=((2*id:Nat):Int):=by rw [H_];omega
 obtain ⟨d,hd,HD⟩ : ∃ d:Nat,2*(id:Int)=(d:Int)/\Hid (d=2*id):=⟨2*id,by omega,rfl⟩
 have hdb:d<=2000:=by omega
 obtain ⟨l2,HL2⟩ : ∃ l,Hid (l=jK p):=⟨_,rfl⟩
 rw [<- HL2.out] at HP hpl;have HP:=hiQ HP;have hw3:IntKind.u64.wrap (d:Int)=(d:Int):=by rw [H_];omega
 clear hw1 hw2 hi;cases akb with
 | false =>
  go_enter Tryz.func48,Tryz.ntmps48
  go_wp2_with fail;((with_reducible refine (Jw d (by unfold oV;omega) _).mono ?_);rintro e w1 ⟨rfl,hb⟩);have hl:=qw 9 d;obtain ⟨l,HL⟩ : ∃ l,Hid (l=pJ 9 d):=⟨_,rfl⟩
  exact zEr
 | true =>
  have YR:=fun W => Jw (d+1) (by unfold oV;omega) W;rw [show ((d+1:Nat):Int)=(d:Int)+1 from by omega] at YR;have HPD:=hiQ YR;clear YR;have hw4:IntKind.u64.wrap ((d:Int)+1)=((d+1:Nat):Int):=by rw [H_];omega
  go_enter Tryz.func48,Tryz.ntmps48
  go_wp2_with fail;((with_reducible refine (HPD.out _).mono ?_);rintro e w1 ⟨rfl,hb⟩);have hl:=qw 9 (d+1);obtain ⟨l,HL⟩ : ∃ l,Hid (l=pJ 9 (d+1)):=⟨_,rfl⟩
  exact zEr
theorem aF:(∀ (a:Act) (v:Value),a.put none v=a)/\(∀ (ts:Array Value) (ds:List _) (i:Nat) (v:Value),Act.put ⟨ts,ds⟩ (some i) v=⟨ts.setIfInBounds i v,ds⟩) /\
  (∀ (l:List Value) (i:Nat) (v:Value),l.toArray.setIfInBounds i v=(l.set i v).toArray)/\(∀ (x:Value) (l:List Value) (v:Value),(x :: l).set 0 v=v :: l)/\(∀ (x:Value) (l:List Value) (i:Nat) (v:Value),(x :: l).set (i+1) v=x :: l.set i v) /\
  (∀ (l:List Oper) (i:Nat) (h:i < l.toArray.size),l.toArray[i]'h=l[i]'(by simpa using h))/\(∀ (x:Oper) (l:List Oper) (h:0 < (x :: l).length),(x :: l)[0]'h=x)/\(∀ (x:Oper) (l:List Oper) (i:Nat) (h:i+1 < (x :: l).length),(x :: l)[i+1]'h=l[i]'(by simpa using h)) :=
 ⟨fun _ _ => rfl,fun _ _ _ _ => rfl,fun _ _ _ => by simp,fun _ _ _ => rfl,fun _ _ _ _ => rfl,fun _ _ _ => rfl,fun _ _ _ => rfl,fun _ _ _ _ => rfl⟩
section
variable {P:Program} {md:Region.Mode} {ops:Array Oper} {Q:Exit->Act->World->Prop} {S:World->Prop} {fuel:Nat} {listed:Array Bool} {a:Act} {w:World} {oi:Oper}
theorem tk (i:Nat) {v:Value} {a2:Act} (r:wpAnyH P md ops Q S fuel (listed.setIfInBounds i true) a2 w) (hi:ops[i]?=some oi:=by rfl) (y:∀ w,S w->(execOp a.eval oi).run P w = .ok (.value v) w:=by (intro w hS;(try dsimp only at hS);go_simp;(first | done | with_reducible rfl)))
  (h1:Region.noSelect ops=true:=by kernel_rfl) (h2:Region.free md ops listed i=true:=by kernel_rfl) (h3:(Region.ready md ops listed).contains i=true:=by kernel_rfl)
  (h4:∀ c a w,Q (.panic c) (a.put oi.dst v) w->Q (.panic c) a w:=by exact fun _ _ _ h => h) (h5:Region.wanted oi (yielded ops a.tmps)=true:=by rfl) (h6:S w:=by assumption) (e:a.put oi.dst v=a2:=by simp only [aF];exact rfl):wpAnyH P md ops Q S (fuel+1) listed a w :=
 J5 hi h1 h2 h3 h4 (.inl ⟨h5,y⟩) h6 (e ▸ r)
theorem tks (i:Nat) (r:wpAnyH P md ops Q S fuel (listed.setIfInBounds i true) (a.put oi.dst undef) w) (hi:ops[i]?=some oi:=by rfl)
  (h1:Region.noSelect ops=true:=by kernel_rfl) (h2:Region.free md ops listed i=true:=by kernel_rfl) (h3:(Region.ready md ops listed).contains i=true:=by kernel_rfl)
  (h4:∀ c a w,Q (.panic c) (a.put oi.dst undef) w->Q (.panic c) a w:=by exact fun _ _ _ h => h) (h5:Region.wanted oi (yielded ops a.tmps)=false:=by rfl) (h6:S w:=by assumption):wpAnyH P md ops Q S (fuel+1) listed a w :=
 J5 hi h1 h2 h3 h4 (.inr ⟨h5,rfl⟩) h6 r
theorem iE (i:Nat) {o:Oper} (h:∀ K':Act->World->Prop,Shut (∀ a w,S w->(S w->wpAnyH P md ops Q S fuel (listed.setIfInBounds i true) a w)->K' a w)->if Region.wanted o (yielded ops a.tmps)=true then Oper.wp P o a w K' Q else K' (a.put o.dst undef) w) (hr:Region.ready md ops listed = [i]:=by kernel_rfl) (ho:ops[i]?=some o:=by rfl):wpAnyH P md ops Q S (fuel+1) listed a w :=
 I_ hr (by simp) (yI ho h FB)
end
theorem addr_add (b o j:Nat):(⟨b,o,none⟩ : Addr).add j=⟨b,o+j,none⟩:=by unfold Addr.add;split <;> simp_all
structure aG (w:World) (L:Nat) (S:Nat->Prop) (v:Value) (xs:List Val):Prop where
 ex:∃ cs:List Value,w.ownsRow L 34 8 v xs.length cs/\∀ (i:Nat) (h:i < xs.length),lD w S xs[i] ((cs.drop (i*8)).take 8)
 sep:∀ k,S k->k < w.heap.size/\v.ownBlock≠some k
section
variable {w w':World} {L:Nat} {S:Nat->Prop} {v:Value} {xs:List Val}
theorem aG.nil (w:World) (L:Nat):aG w L (fun _ => False) (.slice none 0 0) []:=⟨⟨[],K_ _ _ _ _,fun i h => by simp at h⟩,fun k h => h.elim⟩
theorem qo {base:Nat} {e:TypeId} {size n:Nat} {ys:List Value} (h:w.ownsRow base e size v n ys) (hk:∀ k,v.ownBlock=some k->w'.heap[k]?=w.heap[k]?):w'.ownsRow base e size v n ys:=by
 obtain ⟨h1,h2⟩:=h;refine ⟨h1,?_⟩;rcases h2 with h2 | ⟨g,cap,cur,rfl,hb,hh,h3⟩
 . exact .inl h2
 exact .inr ⟨g,cap,cur,rfl,hb,(hk g rfl).trans hh,h3⟩
theorem aG.keep (h:aG w L S v xs) (hk:∀ k,k < w.heap.size->(S k\/v.ownBlock=some k)->w'.heap[k]?=w.heap[k]?) (hs:w.heap.size<=w'.heap.size):aG w' L S v xs:=by
 obtain ⟨⟨cs,h1,h2⟩,h3⟩:=h;have hl:=fun k (hk:v.ownBlock=some k) => h1.lt k hk;exact ⟨⟨cs,qo h1 fun k hb => hk k (hl k hb).2 (.inr hb),fun i hi => (h2 i hi).keep (fun p hp => D_ (hk p.block (h3 _ hp).1 (.inl hp))) (fun _ h => h)⟩,
  fun k hS => ⟨u_ (h3 k hS).1 hs,(h3 k hS).2⟩⟩
theorem aG.lt (h:aG w L S v xs):∀ k,v.ownBlock=some k->L<=k/\k < w.heap.size:=fun k hk => by
 obtain ⟨⟨cs,h1,_⟩,_⟩:=h;exact h1.lt k hk
theorem aG.form (h:aG w L S v xs):∃ A c,v = .slice A xs.length c:=by
 obtain ⟨⟨cs,h1,_⟩,_⟩:=h;exact jF h1
theorem aG.row (h:aG w L S v xs):lM w (fun k => S k\/v.ownBlock=some k) v xs:=by
 obtain ⟨⟨cs,h1,h2⟩,_⟩:=h;refine ⟨fun i => (cs.drop (i*8)).take 8,?_,fun i hi => (h2 i hi).keep (fun _ _ => rfl) (fun _ h => .inl h)⟩;have h0:=h1;obtain ⟨hl,h3⟩:=h1;rcases h3 with ⟨rfl,hn⟩ | ⟨g,cap,cur,rfl,hb,hh,hc,_⟩
 . exact ⟨none,0,by rw [hn],by omega,.inl hn⟩
 refine ⟨_,cap,rfl,hc,.inr ⟨g,0,rfl,.inr rfl,fun i hi j u hu => ?_⟩⟩;have hj:j < 8:=by
  have:=(C_.1 hu).1;simp at this;omega
 rw [Uw hj,List.getElem?_drop] at hu;have:=h0.cells (g:=g) rfl (i*8+j) u hu;have e:(⟨g,0,none⟩ : Addr).add (i*8+j)=⟨g,0+i*8+j,none⟩:=by unfold Addr.add;split <;> simp_all
 rwa [e] at this
theorem aG.rds (h:aG w L S v xs):qF w w.heap.size v xs:=by
 obtain ⟨c,h1,h2⟩:=h.row;have hS:∀ b,(S b\/v.ownBlock=some b)->b < w.heap.size:=fun b hb => hb.elim (fun hb => (h.sep b hb).1) (fun hb => (h.lt b hb).2);exact ⟨c,h1.row hS,fun i hi => (h2 i hi).rd hS⟩
theorem aG.mono {S':Nat->Prop} (h:aG w L S v xs) (hS:∀ k,S k->S' k) (hd:∀ k,S' k->k < w.heap.size/\v.ownBlock≠some k):aG w L S' v xs:=by
 obtain ⟨⟨cs,h1,h2⟩,_⟩:=h;exact ⟨⟨cs,h1,fun i hi => (h2 i hi).keep (fun _ _ => rfl) hS⟩,hd⟩
theorem lD.len {S:Nat->Prop} {y:Val} {c:List Value} (h:lD w S y c):c.length=8:=by cases h;rfl
theorem Bh.one {S:Nat->Prop} {size n:Nat} {v:Value} {c:Nat->List Value} (h:Bh w S size v n c):v.oneCell'=true:=by obtain ⟨A,cap,rfl,_⟩:=h;rfl
theorem IB.one {S:Nat->Prop} {size n:Nat} {v:Value} {ys:List Value} (h:IB w S size v n ys):v.oneCell'=true:=by obtain ⟨_,A,cap,rfl,_⟩:=h;rfl
theorem lD.one {S:Nat->Prop} {y:Val} {c:List Value} (h:lD w S y c):∀ u ∈ c,u.oneCell'=true:=by
 cases h with
 | mk k b n s id ks is rs vk vi vr ck ci hn hs hl gy h1 _ h2 _ h3 =>
  intro u hu;simp only [N_,List.not_mem_nil,or_false] at hu;rcases hu with rfl | rfl | rfl | rfl | rfl | rfl | rfl | rfl <;> first | rfl | exact h1.one | exact h2.one | exact h3.one
theorem aG.app {w1:World} {Sy:Nat->Prop} {ys:List Val} {c:Nat->List Value} {cs:List Value} {v':Value} (h:aG w L S v xs) (hcs:w.ownsRow L 34 8 v xs.length cs) (h2:∀ (i:Nat) (h:i < xs.length),lD w S xs[i] ((cs.drop (i*8)).take 8))
  (hy:∀ (i:Nat) (h:i < ys.length),lD w Sy ys[i] (c i)) (hyS:∀ k,Sy k->k < w.heap.size/\v.ownBlock≠some k)
  (hown:w1.ownsRow L 34 8 v' (xs.length+ys.length) (cs ++ nN c ys.length)) (hgr:w.grownBy w1 v.ownBlock) (hat:v'.ownBlock=v.ownBlock\/v'.ownBlock=some w.heap.size) :
  aG w1 L (fun k => S k\/Sy k) v' (xs ++ ys):=by
 have hcl:cs.length=xs.length*8:=hcs.1;have hkS:∀ k,(S k\/Sy k)->k < w.heap.size/\v.ownBlock≠some k:=fun k hk => hk.elim (h.sep k) (hyS k);have hkeep:∀ p:Addr,(S p.block\/Sy p.block)->w1.cell? p=w.cell? p:=fun p hp => D_ (hgr.block p.block (hkS _ hp).1 (fun e => (hkS _ hp).2 e.symm));have mO:∀ i,i < ys.length->(c i).length=8:=fun i hi => (hy i hi).len;refine ⟨⟨cs ++ nN c ys.length,by simpa using hown,fun i hi => ?_⟩,fun k hk => ⟨u_ (hkS k hk).1 hgr.size,?_⟩⟩
 .
  by_cases hlt:i < xs.length
  .
   rw [V6 hlt];have e:((cs ++ nN c ys.length).drop (i*8)).take 8=(cs.drop (i*8)).take 8:=by
    rw [List.drop_append_of_le_length (by omega),List.take_append_of_le_length (by simp;omega)]
   rw [e];exact (h2 i hlt).keep (fun p hp => hkeep p (.inl hp)) (fun _ h => .inl h)
  obtain ⟨j,rfl⟩ : ∃ j,i=xs.length+j:=⟨i - xs.length,by omega⟩
  have hj:j < ys.length:=by simp at hi;omega
  have e:((cs ++ nN c ys.length).drop ((xs.length+j)*8)).take 8=c j:=by
   rw [Nat.add_mul,<- hcl,<- List.drop_drop,List.drop_left];apply List.ext_getElem?
   intro q;by_cases hq:q < 8
   . rw [Uw hq,List.getElem?_drop,zN c 8 ys.length mO j q hj hq]
   rw [List.getElem?_eq_none (by simp;omega),List.getElem?_eq_none (by rw [mO j hj];omega)]
  rw [e];have e2:(xs ++ ys)[xs.length+j]'hi=ys[j]:=by simp [List.getElem_append_right]
  rw [e2];exact (hy j hj).keep (fun p hp => hkeep p (.inr hp)) (fun _ h => .inr h)
 intro he;rcases hat with h4 | h4
 . rw [h4] at he;exact (hkS k hk).2 he
 rw [h4] at he;injection he with he;have:=(hkS k hk).1;omega
end
theorem agd:(Tryz.prog.info? 34).map (fun i => (i.zero,i.size,i.bytes))=some (some (.agg #[.int .i64 0,.bool false,.int .i64 0,.string ByteArray.empty,.int .i64 0,.slice none 0 0,.slice none 0 0,.slice none 0 0]),8,120):=by kernel_rfl
theorem eP {ops:Array Oper} {op:Oper} {a:Act} {w:World} {K:Act->World->Prop} {Q:Exit->Act->World->Prop} {E:Prop} (hgd:op.guard=none) (s x:Operand)
  (ho:op.op = .call { callee:=.builtin .append,args:=#[s,x],argTypes:=#[31,31] }) {L b o cp:Nat} {S Sy:Nat->Prop} {v:Value} {xs ys:List Val} {c:Nat->List Value} (ht:aG w L S v xs) (hs:a.eval s=v)
  (hx:a.eval x = .slice (some ⟨b,o,none⟩) ys.length cp) (hcell:∀ i,i < ys.length->∀ j u,(c i)[j]?=some u->w.cell? ⟨b,o+i*8+j,none⟩=some u) (hy:∀ (i:Nat) (h:i < ys.length),lD w Sy ys[i] (c i)) (hyS:∀ k,Sy k->k < w.heap.size/\v.ownBlock≠some k)
  (hn:xs.length+ys.length < 1000000) (hB:L<=w.heap.size)
  (h:∀ v' w1,aG w1 L (fun k => S k\/Sy k) v' (xs ++ ys)->(v'.ownBlock=v.ownBlock\/v'.ownBlock=some w.heap.size)->Below L w w1->(∀ k,k < w.heap.size->v.ownBlock≠some k->w1.heap[k]?=w.heap[k]?)->K (a.put op.dst v') w1) :
  if Region.wanted op (yielded ops a.tmps)=true then Oper.wp Tryz.prog op a w K Q else E:=by
 obtain ⟨i0,hi,hz0,hz1,hz2⟩:=info_parts agd;obtain ⟨⟨cs,h1,h2⟩,h3⟩:=id ht;have mO:∀ i,i < ys.length->(c i).length=8:=fun i hi => (hy i hi).len;have hnews:∀ j u,(nN c ys.length)[j]?=some u->w.cell? ((⟨b,o,none⟩ : Addr).add j)=some u:=by
  intro j u hu;have hlt:j < ys.length*8:=by have:=(C_.1 hu).1;rwa [arY c 8 _ mO] at this
  have hj:j=j / 8*8+j % 8:=by omega
  rw [hj,zN c 8 ys.length mO (j / 8) (j % 8) (by omega) (by omega)] at hu;have:=hcell (j / 8) (by omega) (j % 8) u hu;rw [addr_add,show o+j=o+j / 8*8+j % 8 by omega];exact this
 have hone:∀ u ∈ nN c ys.length,u.oneCell'=true:=by
  intro u hu;obtain ⟨j,hj,rfl⟩:=List.getElem_of_mem hu;have hlt:j < ys.length*8:=by rwa [arY c 8 _ mO] at hj
  have hj2:j=j / 8*8+j % 8:=by omega
  have hu2:(nN c ys.length)[j]?=some ((nN c ys.length)[j]):=m_ hj;generalize (nN c ys.length)[j]=u at *;have hu3:=zN c 8 ys.length mO (j / 8) (j % 8) (by omega) (by omega);rw [<- hj2,hu2] at hu3;exact (hy (j / 8) (by omega)).one _ (V_ hu3.symm)
 obtain ⟨v',w1,hr,hown,hgr,_,hat⟩:=run_append_own_at (P:=Tryz.prog) (w:=w) L 31 op.type 34 i0 _ 8 120 Tryz.underlying31 hi hz0 hz1 hz2 rfl (by decide) v xs.length cs h1 ⟨b,o,none⟩ ys.length cp (nN c ys.length) (arY c 8 _ mO) hnews hone (by simp only [maxLen];omega) (by omega) hB;have hw:Region.wanted op (yielded ops a.tmps)=true:=by simp [Region.wanted,hgd]
 rw [o_ hw];unfold Oper.wp execOp;simp only [ho,resolve,invoke,builtin,Sem.run_bind,Sem.run_pure,Result.andThen_ok,List.map_toArray,Qv,List.map_nil,hs,hx,hr];exact h v' w1 (ht.app h1 h2 hy hyS hown hgr hat) hat (Ef hgr hB (fun k hk => (h1.lt k hk).1)) (fun k hk hne => hgr.block k hk (fun e => hne e.symm))
theorem eU {ops:Array Oper} {op:Oper} {a:Act} {w:World} {K:Act->World->Prop} {Q:Exit->Act->World->Prop} {E:Prop} (hgd:op.guard=none) (s x:Operand)
  (ho:op.op = .call { callee:=.builtin .append,args:=#[s,x],argTypes:=#[31,31] }) {L gN:Nat} {S Sy:Nat->Prop} {v:Value} {xs:List Val} {y:Val} {cy:Array Value} (ht:aG w L S v xs) (hs:a.eval s=v)
  (hN:Has w gN 34 cy) (hx:a.eval x = .slice (some ⟨gN,0,none⟩) 1 1) (hy:lD w Sy y cy.toList) (hyS:∀ k,Sy k->k < w.heap.size/\v.ownBlock≠some k)
  (hn:xs.length < 900000) (hB:L<=w.heap.size)
  (h:∀ v' w1,aG w1 L (fun k => S k\/Sy k) v' (xs ++ [y])->(v'.ownBlock=v.ownBlock\/v'.ownBlock=some w.heap.size)->Below L w w1->(∀ k,k < w.heap.size->v.ownBlock≠some k->w1.heap[k]?=w.heap[k]?)->K (a.put op.dst v') w1) :
  if Region.wanted op (yielded ops a.tmps)=true then Oper.wp Tryz.prog op a w K Q else E :=
 eP (b:=gN) (o:=0) (cp:=1) (ys:=[y]) (c:=fun _ => cy.toList) hgd s x ho ht hs hx (fun i hi j u hu => by
   have h0:i=0:=by simpa using hi
   subst h0;have:=hN.cell j;rw [show (0+0*8+j)=j by omega,this];simpa using hu)
  (fun i hi => (by
   have h0:i=0:=by simpa using hi
   subst h0;exact hy)) hyS (by simp only [z_,Q_];omega) hB h
theorem jZ {ops:Array Oper} {op:Oper} {a:Act} {w:World} {K:Act->World->Prop} {Q:Exit->Act->World->Prop} {E:Prop} (hgd:op.guard=none) (s x:Operand)
  (ho:op.op = .call { callee:=.builtin .append,args:=#[s,x],argTypes:=#[31,31] }) {L:Nat} {S:Nat->Prop} {v:Value} {xs:List Val} (ht:aG w L S v xs) (hs:a.eval s=v) (hx:a.eval x = .slice none 0 0)
  (h:K (a.put op.dst v) w):if Region.wanted op (yielded ops a.tmps)=true then Oper.wp Tryz.prog op a w K Q else E:=by
 obtain ⟨i0,hi,hz0,hz1,hz2⟩:=info_parts agd;obtain ⟨⟨cs,h1,h2⟩,h3⟩:=ht;have hr:=run_append_owned_none (P:=Tryz.prog) (w:=w) L 31 op.type 34 i0 8 Tryz.underlying31 hi v xs.length cs h1;have hw:Region.wanted op (yielded ops a.tmps)=true:=by simp [Region.wanted,hgd]
 rw [o_ hw];unfold Oper.wp execOp;simp only [ho,resolve,invoke,builtin,Sem.run_bind,Sem.run_pure,Result.andThen_ok,List.map_toArray,Qv,List.map_nil,hs,hx,hr];exact h
theorem Gt {l:List UInt8} {n:Nat} {r:List UInt8} (h:xM l=some (n,r)):oV n/\r.length < l.length:=by
 obtain ⟨k,h1,h2,h3,h4,_⟩:=EN h;exact ⟨h4,by rw [h3,Qx];omega⟩
theorem next_any (l:List UInt8) (w:World) :
  Calls Tryz.prog 129 #[.string ⟨l.toArray⟩] w fun e w' => (match xM l with
   | some (n,r) => e = .returned (.tuple #[.int .u64 n,.string ⟨r.toArray⟩,.bool true])
   | none => e = .returned (.tuple #[.int .u64 0,.string ByteArray.empty,.bool false]))/\Below w.heap.size w w':=by
 have HG:=hiQ (fun W => get_any l W);obtain ⟨q,hq⟩ : ∃ q,xM l=q:=⟨_,rfl⟩
 rw [hq];cases q with
 | some p =>
  obtain ⟨n,r⟩:=p;obtain ⟨k,h1,h2,rfl,h4,h5⟩:=EN hq;rw [h5] at HG;have hcut:({ data:=l.toArray } : ByteArray).extract k l.length = { data:=(l.drop k).toArray }:=Pg _ _ _ rfl;go_enter Tryz.func129,Tryz.ntmps129
  go_wp2_with fail;refine (HG.out w).mono ?_;rintro e w1 ⟨rfl,rfl⟩;go_wp2_with fail;go_quiet (fail)
  go_wp2_with fail;go_ret3;exact ⟨rfl,below_drewN (g_ _ _) _⟩
 | none =>
  have h0:=ZT hq;generalize ru 0 0 l=g at *;obtain ⟨n,k,e⟩:=g;have he2:((e:Int) != 0)=true:=by rw [TM];simp only at h0;omega
  go_enter Tryz.func129,Tryz.ntmps129
  go_wp2_with fail;refine (HG.out w).mono ?_;rintro e w1 ⟨rfl,rfl⟩;go_wp2_with fail;go_ret3;exact ⟨rfl,g_ _ _⟩
theorem zDm {p:Prop} (h:p:=by
 go_wp2_with fail;refine (HG.out w).mono ?_;rintro e w1 ⟨rfl,hb1⟩;go_wp2_with fail;go_ret3;exact ⟨rfl,hb1⟩):p:=h
theorem Wv (l:List UInt8) (hlen:l.length<=1000000) (w:World) :
  Calls Tryz.prog 130 #[.string ⟨l.toArray⟩] w fun e w' => (match CJ l with
   | some (p,r) => e = .returned (.tuple #[.string ⟨p.toArray⟩,.string ⟨r.toArray⟩,.bool true])
   | none => e = .returned (.tuple #[.string ByteArray.empty,.string ByteArray.empty,.bool false]))/\Below w.heap.size w w':=by
 have HG:=hiQ (fun W => next_any l W);obtain ⟨q,hq⟩ : ∃ q,CJ l=q:=⟨_,rfl⟩
 rw [hq];unfold CJ at hq;generalize hn:xM l=g at *;cases g with
 | none =>
  simp only at hq;subst hq;go_enter Tryz.func130,Tryz.ntmps130
  exact zDm
 | some g =>
  obtain ⟨n,r⟩:=g;obtain ⟨hu,hr⟩:=Gt hn;simp only at hq;have hw:IntKind.u64.wrap (r.length:Int)=r.length:=by rw [H_];omega
  by_cases h1:n<=r.length
  .
   rw [o_ h1] at hq;subst hq;have hle:¬ ((r.length:Int) < n):=by omega
   have hc1:({ data:=r.toArray } : ByteArray).extract 0 n = { data:=(r.take n).toArray }:=by rw [YB,WM]
   have hc2:({ data:=r.toArray } : ByteArray).extract n r.length = { data:=(r.drop n).toArray }:=Pg _ _ _ rfl;go_enter Tryz.func130,Tryz.ntmps130
   go_wp2_with fail;refine (HG.out w).mono ?_;rintro e w1 ⟨rfl,hb1⟩;go_wp2_with fail;go_quiet (fail)
   go_wp2_with fail;go_ret3;exact ⟨rfl,below_drewN hb1 _⟩
  rw [gB h1] at hq;subst hq;have hle:((r.length:Int) < n):=by omega
  go_enter Tryz.func130,Tryz.ntmps130
  exact zDm
theorem zIw {p:Prop} (h:p:=by
 go_enter Tryz.func104,Tryz.ntmps104
 exact zDm):p:=h
theorem ag4 (l:List UInt8) (w:World) :
  Calls Tryz.prog 104 #[.string ⟨l.toArray⟩] w fun e w' => (match Jv l with
   | some (n,r) => e = .returned (.tuple #[.int .i64 n,.string ⟨r.toArray⟩,.int .i64 0])
   | none => e = .returned (.tuple #[.int .i64 0,.string ByteArray.empty,.int .i64 12]))/\Below w.heap.size w w':=by
 have HG:=hiQ (fun W => next_any l W);obtain ⟨q,hq⟩ : ∃ q,Jv l=q:=⟨_,rfl⟩
 rw [hq];unfold Jv at hq;generalize hn:xM l=g at *;cases g with
 | none =>
  simp only at hq;subst hq;exact zIw
 | some g =>
  obtain ⟨n,r⟩:=g;obtain ⟨hu,hr⟩:=Gt hn;simp only at hq;by_cases h1:n < 1\/1000 < n
  .
   rw [o_ h1] at hq;subst hq;by_cases h0:(n:Int) < 1
   . exact zIw
   have h3:(1000:Int) < n:=by omega
   exact zIw
  rw [gB h1] at hq;subst hq;have h0:¬ (n:Int) < 1:=by omega
  have h3:¬ (1000:Int) < n:=by omega
  have hw:IntKind.i64.wrap (n:Int)=n:=by rw [Qz];omega
  exact zIw
def SB (l:List UInt8):Value:=.string ⟨l.toArray⟩
def KT:Value->Nat
 | .string b => b.size
 | _ => 0
theorem YS:(Tryz.prog.info? 9).map (fun i => (i.zero,i.size,i.bytes))=some (some (.string ByteArray.empty),1,16):=by kernel_rfl
theorem ZW (f:Nat) (acc:List (List UInt8)):zf f [] acc=some acc:=by cases f <;> rfl
def aco (w:World) (n:Nat):Option (List (List UInt8))->Ending->World->Prop
 | some I,e,w' => ∃ v,e = .returned (.tuple #[v,.int .i64 0])/\I.length<=n/\w'.ownsRow w.heap.size 9 1 v I.length (I.map SB)/\Below w.heap.size w w'
 | none,e,w' => e = .returned (.tuple #[.slice none 0 0,.int .i64 12])/\Below w.heap.size w w'
theorem Tq (L:List UInt8) (hlen:L.length<=1000000) (w:World) :
  Calls Tryz.prog 105 #[.string ⟨L.toArray⟩] w (aco w L.length (BM L)):=by
 obtain ⟨I,hI⟩ : ∃ I,BM L=I:=⟨_,rfl⟩
 rw [hI];go_enter Tryz.func105,Tryz.ntmps105
 go_wp2
 go_loopw [4,5] (fun v s wr => ∃ f l acc,l.length<=f/\l.length+acc.length<=L.length/\s = .string ⟨l.toArray⟩/\I=zf f l acc/\wr.ownsRow w.heap.size 9 1 v acc.length (acc.map SB)/\Below w.heap.size w wr)
  (fun _ s _ => KT s)
 case atStart => exact ⟨L.length,L,[],by omega,by simp,rfl,hI.symm,K_ _ _ _ _,g_ _ _⟩
 case round =>
  obtain ⟨f,l,acc,hf,hla,rfl,hp,hown,hb⟩:=hrel;have Hp:=hiQ hp;clear hp;rcases l with _ | ⟨b,r⟩
  .
   rw [ZW] at Hp;go_wp2
   go_ret2;rw [Hp.out];exact ⟨u4,rfl,by simpa using hla,hown,hb⟩
  obtain ⟨f,rfl⟩ : ∃ g,f=g+1:=⟨f - 1,by simp only [z_] at hf;omega⟩
  rw [zf,gB (by simp)] at Hp;have hpl:=hla;have hpart:=Wv (b :: r) (by omega) wr;have hsz:=@EH (b :: r);generalize CJ (b :: r)=g at *;cases g with
  | none =>
   simp only at Hp;have Jz:=hiQ hpart;clear hpart hsz;go_wp2_with (go_at_call 130;refine Jz.out.mono ?_;rintro e w1 ⟨rfl,hb1⟩)
   go_ret2;rw [Hp.out];exact ⟨rfl,hb.trans (hb1.mono hb.size)⟩
  | some g =>
   obtain ⟨p,q⟩:=g;have hsz:=hsz rfl;simp only at Hp;have Jz:=hiQ hpart;clear hpart;go_wp2_with first
    | (go_at_call 130;refine Jz.out.mono ?_;rintro e w1 ⟨rfl,hb1⟩)
    | (at_builtin;refine su rfl _ _ _ rfl w.heap.size 9 _ 1 16 Tryz.underlying98 YS rfl (by decide) _ acc.length (acc.map SB) rfl (own_below hown hb1) [_] _ 1 rfl rfl (by simp [Value.oneCell']) (by omega) (by omega) (Jh hb.size hb1.size) ?_;intro v' w2 hown2 hb2)
   go_roundw
   case rel =>
    refine ⟨f,q,acc ++ [p],by omega,by simp only [h_,z_,Q_];omega,rfl,Hp.out,?_,hb.trans ((hb1.mono hb.size).trans hb2)⟩;rw [Qw,h_];exact hown2
   case measure =>
    simp only [KT,ByteArray.size,List.size_toArray];omega
def LQ (f:kP):List Value:=[.int .i64 f.id,.bool f.akb,.string ⟨f.data.toArray⟩]
def wZ (l:List kP):List Value:=l.flatMap LQ
theorem acp (l:List kP):(wZ l).length=l.length*3:=by
 induction l with
 | nil => rfl
 | cons f r ih => simp only [wZ,B_,h_,z_] at ih ⊢; rw [ih];simp [LQ];omega
theorem acr (l:List kP) (f:kP):wZ (l ++ [f])=wZ l ++ LQ f:=by simp [wZ]
theorem ag5:(Tryz.prog.info? 167).map (fun i => (i.zero,i.size,i.bytes))=some (some (.agg #[.int .i64 0,.bool false,.string ByteArray.empty]),3,32):=by kernel_rfl
theorem X5 (f n:Nat) (acc:List kP):xQ f [] n acc=some acc:=by cases f <;> rfl
def ZX (w:World) (n:Nat):Option (List kP)->Ending->World->Prop
 | some I,e,w' => ∃ v,e = .returned (.tuple #[v,.int .i64 0])/\I.length<=n/\w'.ownsRow w.heap.size 167 3 v I.length (wZ I)/\Below w.heap.size w w'
 | none,e,w' => e = .returned (.tuple #[.slice none 0 0,.int .i64 12])/\Below w.heap.size w w'
theorem zEo {p:Prop} (h:p:=by
 go_wp2_with (go_at_call 129;refine (NP.out _).mono ?_;rintro e w1 ⟨rfl,hb1⟩)
 go_ret2;rw [Hp.out];exact ⟨rfl,hb.trans (hb1.mono hb.size)⟩):p:=h
theorem Zl (L:List UInt8) (hlen:L.length<=1000000) (w:World) :
  Calls Tryz.prog 107 #[.string ⟨L.toArray⟩] w (ZX w L.length (Dx L)):=by
 obtain ⟨I,hI⟩ : ∃ I,Dx L=I:=⟨_,rfl⟩
 rw [hI];go_enter Tryz.func107,Tryz.ntmps107
 go_wp2
 go_loopw [4,5,6] (fun v u s wr => ∃ f l last acc,u = .int .u64 ((last:Nat):Int)/\last<=1000/\l.length<=f/\l.length+acc.length<=L.length/\s = .string ⟨l.toArray⟩/\I=xQ f l last acc/\wr.ownsRow w.heap.size 167 3 v acc.length (wZ acc)/\Below w.heap.size w wr)
  (fun _ _ s _ => KT s)
 case atStart => exact ⟨L.length,L,0,[],rfl,by omega,by omega,by simp,rfl,hI.symm,K_ _ _ _ _,g_ _ _⟩
 case round =>
  obtain ⟨f,l,last,acc,rfl,hlast,hf,hla,rfl,hp,hown,hb⟩:=hrel;have Hp:=hiQ hp;clear hp;rcases l with _ | ⟨b,r⟩
  .
   rw [X5] at Hp;go_wp2
   go_ret2;rw [Hp.out];exact ⟨u4,rfl,by simpa using hla,hown,hb⟩
  obtain ⟨f,rfl⟩ : ∃ g,f=g+1:=⟨f - 1,by simp only [z_] at hf;omega⟩
  rw [xQ,gB (by simp)] at Hp;have hnext:=fun W => next_any (b :: r) W;have hsz:=@Gt (b :: r);generalize xM (b :: r)=g at *;cases g with
  | none =>
   simp only at Hp;have NP:=hiQ hnext;clear hnext hsz;exact zEo
  | some g =>
   obtain ⟨h,q⟩:=g;obtain ⟨hu,hsz⟩:=hsz rfl;have NP:=hiQ hnext;clear hnext;unfold oV at hu;have hw0:IntKind.u64.wrap ((h:Int) / 2)=(h:Int) / 2:=by rw [H_];omega
   by_cases hc:h / 2<=last\/1000 < h / 2
   .
    simp only [o_ hc] at Hp;by_cases h0:(h:Int) / 2<=last
    . exact zEo
    have h3:(1000:Int) < (h:Int) / 2:=by omega
    exact zEo
   simp only [gB hc] at Hp;have h0:¬ (h:Int) / 2<=last:=by omega
   have h3:¬ (1000:Int) < (h:Int) / 2:=by omega
   have hw1:IntKind.i64.wrap ((h:Int) / 2)=(h:Int) / 2:=by rw [Qz];omega
   have hpart:=fun W => Wv q (by omega) W;have hqz:=@EH q;generalize CJ q=g at *;cases g with
   | none =>
    simp only at Hp;have Jz:=hiQ hpart;clear hpart hqz;go_wp2_with first
     | (go_at_call 129;refine (NP.out _).mono ?_;rintro e w1 ⟨rfl,hb1⟩)
     | (go_at_call 130;refine (Jz.out _).mono ?_;rintro e w2 ⟨rfl,hb2⟩)
    go_ret2;rw [Hp.out];exact ⟨rfl,hb.trans ((hb1.mono hb.size).trans (hb2.mono (Jh hb.size hb1.size)))⟩
   | some g =>
    obtain ⟨p,q'⟩:=g;have hqz:=hqz rfl;simp only at Hp;have Jz:=hiQ hpart;clear hpart;go_wp2_with first
     | (go_at_call 129;refine (NP.out _).mono ?_;rintro e w1 ⟨rfl,hb1⟩)
     | (go_at_call 130;refine (Jz.out _).mono ?_;rintro e w2 ⟨rfl,hb2⟩;have fV:=hb.trans ((hb1.mono hb.size).trans (hb2.mono (Jh hb.size hb1.size)));have hown1:=own_below (own_below hown hb1) hb2;have amJ:=fV.size)
     | (at_builtin;refine su rfl _ _ _ rfl w.heap.size 167 _ 3 32 Tryz.underlying162 ag5 rfl (by decide) _ acc.length (wZ acc) rfl hown1 [_,_,_] _ 1 rfl rfl (by simp [Value.oneCell']) (by omega) (by omega) amJ ?_;intro v' w3 hown2 hb3)
    go_roundw
    case rel =>
     refine ⟨f,q',h / 2,acc ++ [⟨h / 2,decide (h % 2=1),p⟩],by simp,by omega,by omega,by simp only [h_,z_,Q_] at *;omega,rfl,Hp.out,?_,fV.trans hb3⟩;rw [acr,h_];have e:decide (h % 2=1)=((h:Int) % 2 == 1):=by
      rw [Bool.eq_iff_iff,decide_eq_true_iff,TL];omega
     simp only [LQ,e];exact hown2
    case measure =>
     simp only [KT,ByteArray.size,List.size_toArray];omega
def jQ (w:World) (b:Nat):Prop := ∀ c f,w.heap[b]?≠some (.cells c 3 f)
structure cZ (w:World) (gr:Nat) (w':World):Prop where
 low:Below gr w w'
 block:∀ b,gr < b->b < w.heap.size->jQ w b->w'.heap[b]?=w.heap[b]?
section
variable {w w1 w':World} {gr:Nat}
theorem cZ.refl (w:World) (gr:Nat):cZ w gr w:=⟨g_ _ _,fun _ _ _ _ => rfl⟩
theorem cZ.size (h:cZ w gr w'):w.heap.size<=w'.heap.size:=h.low.size
theorem cZ.IG (h:cZ w gr w') {b:Nat} (h1:gr < b) (h2:b < w.heap.size) (h3:jQ w b):jQ w' b:=fun c f e => h3 c f (by rw [<- h.block b h1 h2 h3];exact e)
theorem cZ.trans (h:cZ w gr w1) (h':cZ w1 gr w'):cZ w gr w' :=
 ⟨h.low.trans h'.low,fun b h1 h2 h3 => (h'.block b h1 (u_ h2 h.size) (h.IG h1 h2 h3)).trans (h.block b h1 h2 h3)⟩
theorem cZ.of_below (h:Below w.heap.size w w') (hg:gr<=w.heap.size):cZ w gr w':=⟨h.mono hg,fun b _ h2 _ => h.block b h2⟩
theorem cZ.setCell (w:World) (gr i:Nat) (v:Value):cZ w gr (w.setCell ⟨gr,i,none⟩ v) :=
 ⟨(g_ gr w).setCell (b_ gr) v,fun b h1 _ _ => Below.heap_setCell w _ v b (by show b≠gr;omega)⟩
theorem cZ.grown {base n:Nat} {v:Value} {xs:List Value} (hg:w.grownBy w' v.ownBlock) (ho:w.ownsRow base 3 1 v n xs) (hb:gr < base) (hs:gr<=w.heap.size):cZ w gr w':=by
 have hlt:=ho.lt;refine ⟨(g_ gr w).grown hg hs fun k hk => by have:=hlt k hk;omega,fun b _ h2 h3 => hg.block b h2 fun e => ?_⟩;rcases ho.2 with ⟨rfl,_⟩ | ⟨g,cap,cur,rfl,_,hh,_⟩
 . simp [Value.ownBlock] at e
 simp only [Value.ownBlock,R_] at e;subst e;exact h3 _ _ hh
end
def sQ (w w':World) (b:Nat):Prop:=w.heap.size<=b/\b < w'.heap.size/\jQ w' b
theorem sQ.keep {w w1 w2:World} {gr:Nat} (hg:gr < w.heap.size) (h:cZ w1 gr w2) {b:Nat} (hb:sQ w w1 b):w2.heap[b]?=w1.heap[b]?/\sQ w w2 b :=
 ⟨h.block b (by have:=hb.1;omega) hb.2.1 hb.2.2,hb.1,u_ hb.2.1 h.size,h.IG (by have:=hb.1;omega) hb.2.1 hb.2.2⟩
theorem sQ.later {w0 w w':World} (hs:w0.heap.size<=w.heap.size) {b:Nat} (hb:sQ w w' b):sQ w0 w' b:=⟨Jh hs hb.1,hb.2⟩
def zq (n:Int):Value:=.int .i64 n
structure lC (w:World) (gr:Nat) (tv fp:Value) (fn:Int) (path:List Int):Prop where
 row:∃ pv,Has w gr 111 #[tv,pv,fp,.int .i64 fn]/\w.ownsRow (gr+1) 3 1 pv path.length (path.map zq)
