/- Plain helpers, and what else is used with it. No condition. -/
import Derived.Test.YtkaedmpppnnamaaGreatDoorRows
import Derived.Handy
import Derived.Lib.Hide
import Derived.Lib.AppendStr
import Derived.Deep.QuietTactic
import Derived.BigQuiet
import Derived.WalkSpells
import Derived.WalkLawsBesides
import Derived.ShutString
import Derived.ChangeOld
import Derived.Carry
import Derived.SizedLaws
import Derived.Deep.RegionHeld3
import Derived.Maps.OwnSet
import Derived.Maps.Views
import Derived.Deep.Slices
set_option maxHeartbeats 800000
set_option maxRecDepth 100000
namespace Go.Proofs.YtkaedmpppnnamaaGreatDoor
open ChangeShapes WideShapes ChangeAt RowKit
open Go.ChangeMaps (open_string shut_string)
theorem b_:type_of%@Nat.le_refl:=@Nat.le_refl
theorem f_:type_of%@decide_eq_false:=@decide_eq_false
theorem gB:type_of%@if_neg:=@if_neg
theorem g_:type_of%@Below.refl:=@Below.refl
theorem h_:type_of%@List.length_append:=@List.length_append
theorem jl:type_of%@List.getElem_mem:=@List.getElem_mem
theorem j_:type_of%@Bool.and_eq_true:=@Bool.and_eq_true
theorem m_:type_of%@List.getElem?_eq_getElem:=@List.getElem?_eq_getElem
theorem n_:type_of%@decide_eq_true:=@decide_eq_true
theorem o_:type_of%@if_pos:=@if_pos
theorem r_:type_of%@beq_eq_false_iff_ne:=@beq_eq_false_iff_ne
theorem t_:type_of%@wp_region_held_drew:=@wp_region_held_drew
theorem u_:type_of%@Nat.lt_of_lt_of_le:=@Nat.lt_of_lt_of_le
theorem vJ:type_of%@bodyPost_ret:=@bodyPost_ret
theorem vK:type_of%@List.take_succ_eq_append_getElem:=@List.take_succ_eq_append_getElem
theorem w_:type_of%@decide_eq_true_eq:=@decide_eq_true_eq
theorem yH:type_of%@wpList_store_row:=@wpList_store_row
theorem yI:type_of%@AllReadyH.cons:=@AllReadyH.cons
theorem yJ:type_of%@List.take_of_length_le:=@List.take_of_length_le
theorem yS:type_of%@List.eq_nil_of_length_eq_zero:=@List.eq_nil_of_length_eq_zero
theorem z_:type_of%@List.length_cons:=@List.length_cons
theorem A_:type_of%@List.drop_eq_getElem_cons:=@List.drop_eq_getElem_cons
theorem B_:type_of%@List.flatMap_cons:=@List.flatMap_cons
theorem CX:type_of%@Bool.true_and:=@Bool.true_and
theorem C_:type_of%@List.getElem?_eq_some_iff:=@List.getElem?_eq_some_iff
theorem Dl:type_of%@wpAnyH_done:=@wpAnyH_done
theorem Dp:type_of%@List.mem_append:=@List.mem_append
theorem D_:type_of%@World.cell?_of_block:=@World.cell?_of_block
theorem E_:type_of%@IntWalk.i64_in:=@IntWalk.i64_in
theorem FB:type_of%@AllReadyH.nil:=@AllReadyH.nil
theorem G_:type_of%@List.drop_eq_nil_of_le:=@List.drop_eq_nil_of_le
theorem H_:type_of%@IntKind.wrap_u64:=@IntKind.wrap_u64
theorem I_:type_of%@wpAnyH_ready:=@wpAnyH_ready
theorem Jh:type_of%@Nat.le_trans:=@Nat.le_trans
theorem J5:type_of%@wpAnyH_take:=@wpAnyH_take
theorem J_:type_of%@List.nil_append:=@List.nil_append
theorem K_:type_of%@World.ownsRow_nil:=@World.ownsRow_nil
theorem L_:type_of%@List.length_take:=@List.length_take
theorem MX:type_of%@Nat.lt_succ_self:=@Nat.lt_succ_self
theorem M_:type_of%@Option.isSome_some:=@Option.isSome_some
theorem N_:type_of%@List.mem_cons:=@List.mem_cons
theorem Oa:type_of%@List.getD_eq_getElem?_getD:=@List.getD_eq_getElem?_getD
theorem OU:type_of%@Option.isSome_none:=@Option.isSome_none
theorem OX:type_of%@List.getElem_map:=@List.getElem_map
theorem O_:type_of%@Int.tmod_eq_emod_of_nonneg:=@Int.tmod_eq_emod_of_nonneg
theorem Pe:type_of%@List.mem_map:=@List.mem_map
theorem P_:type_of%@Nat.mul_le_mul_right:=@Nat.mul_le_mul_right
theorem Qo:type_of%@Nat.mod_lt:=@Nat.mod_lt
theorem Qp:type_of%@List.mem_singleton:=@List.mem_singleton
theorem Qs:type_of%@List.length_map:=@List.length_map
theorem Qu:type_of%@List.cons_append:=@List.cons_append
theorem Qv:type_of%@List.map_cons:=@List.map_cons
theorem Qw:type_of%@List.map_append:=@List.map_append
theorem Qx:type_of%@List.length_drop:=@List.length_drop
theorem Qy:type_of%@Nat.le_of_lt:=@Nat.le_of_lt
theorem Qz:type_of%@IntKind.wrap_i64:=@IntKind.wrap_i64
theorem QA:type_of%@List.getElem_cons_zero:=@List.getElem_cons_zero
theorem QB:type_of%@Nat.add_zero:=@Nat.add_zero
theorem QC:type_of%@Nat.lt_or_ge:=@Nat.lt_or_ge
theorem QD:type_of%@List.all_eq_true:=@List.all_eq_true
theorem QE:type_of%@Bool.false_and:=@Bool.false_and
theorem QF:type_of%@Bool.or_eq_true:=@Bool.or_eq_true
theorem QG:type_of%@List.flatMap_append:=@List.flatMap_append
theorem QH:type_of%@Nat.mul_comm:=@Nat.mul_comm
theorem QI:type_of%@Bool.not_false:=@Bool.not_false
theorem Q_:type_of%@List.length_nil:=@List.length_nil
theorem Ru:type_of%@Nat.zero_add:=@Nat.zero_add
theorem R_:type_of%@Option.some.injEq:=@Option.some.injEq
theorem S_:type_of%@List.getElem_cons_succ:=@List.getElem_cons_succ
theorem TL:type_of%@beq_iff_eq:=@beq_iff_eq
theorem TM:type_of%@bne_iff_ne:=@bne_iff_ne
theorem T_:type_of%@Nat.pow_succ:=@Nat.pow_succ
theorem Us:type_of%@Nat.add_assoc:=@Nat.add_assoc
theorem Uu:type_of%@Bool.not_true:=@Bool.not_true
theorem Uw:type_of%@List.getElem?_take_of_lt:=@List.getElem?_take_of_lt
theorem UQ:type_of%@List.getElem?_map:=@List.getElem?_map
theorem U_:type_of%@List.length_singleton:=@List.length_singleton
theorem Vk:type_of%@List.filter_cons:=@List.filter_cons
theorem Vs:type_of%@List.append_nil:=@List.append_nil
theorem Vt:type_of%@List.getElem_append_right:=@List.getElem_append_right
theorem VZ:type_of%@Nat.zero_le:=@Nat.zero_le
theorem V6:type_of%@List.getElem_append_left:=@List.getElem_append_left
theorem V7:type_of%@List.all_cons:=@List.all_cons
theorem V8:type_of%@Option.getD_some:=@Option.getD_some
theorem V_:type_of%@List.mem_of_getElem?:=@List.mem_of_getElem?
theorem WM:type_of%@List.drop_zero:=@List.drop_zero
def B8 (b:UInt8):Value:=.int .u8 (b.toNat:Int)
def oV (n:Nat):Prop:=n < 18446744073709551616
theorem QM {P:Program} (src dst e:TypeId) (hs:P.underlying src=some (.slice e)) (he:P.underlying e=some (.int .u8)) (hd:P.underlying dst=some .string)
  (W:World) (b off len cap:Nat) (cs:Array Value) (t:TypeId) (fz:Nat × Nat) (l:List UInt8) (hb:W.heap[b]?=some (.cells cs t fz)) (hl:l.length=len)
  (hc:∀ (i:Nat) (x:UInt8),l[i]?=some x->cs[off+i]?=some (B8 x)) :
  (convert src dst (.slice (some ⟨b,off,none⟩) len cap)).run P W = .ok (.string ⟨l.toArray⟩) W:=by
 have:=run_convert_bytes_arg (P:=P) W src e hs he b off len cap (l.map fun x => (x.toNat:Int)) (by simpa using hl) (fun i hi => by
  simp only [World.cell?,hb];have hlt:i < l.length:=by omega
  rw [hc i l[i] (m_ hlt)];simp [B8,List.getD,hlt]) dst hd
 rw [this]
 congr 2
 simp [strOfNums,List.map_map,Function.comp_def]
theorem bC {k:IntKind} {a b:Int} (h:a=b):Ending.returned (.int k a) = .returned (.int k b):=by rw [h]
theorem au {a b:Bool} (h:a=b):Ending.returned (.bool a) = .returned (.bool b):=by rw [h]
theorem Aa {a b:List UInt8} (h:a=b):Ending.returned (.string ⟨a.toArray⟩) = .returned (.string ⟨b.toArray⟩):=by rw [h]
theorem qO (a b:List UInt8):({ data:=a.toArray } : ByteArray) ++ { data:=b.toArray } = { data:=(a ++ b).toArray }:=by
 ext1
 rw [ByteArray.data_append];simp
theorem YB (l:List UInt8) (i j:Nat):({ data:=l.toArray } : ByteArray).extract i j = { data:=((l.take j).drop i).toArray }:=by
 ext1
 rw [ByteArray.data_extract];simp [List.extract_eq_take_drop,List.drop_take]
theorem Pg (l:List UInt8) (i j:Nat) (h:j=l.length):({ data:=l.toArray } : ByteArray).extract i j = { data:=(l.drop i).toArray }:=by
 rw [YB,h,List.take_length]
theorem below_drewN {B:Nat} {a w:World} (h:Below B a w) (n:Nat):Below B a (w.drewN n):=⟨h.os,h.tape,h.output,h.size,h.block⟩
theorem ate (w:World) (o:Obj):(w.alloc o).heap[w.heap.size]?=some o:=heap_alloc_new w o
theorem ZC (n:Int) (h0:0<=n) (h1:n < 256):Value.int .u8 n=B8 (UInt8.ofNat n.toNat):=by
 unfold B8;congr 1;simp;omega
theorem ZE {P:Program} (src dst e:TypeId) (hs:P.underlying src=some (.slice e)) (he:P.underlying e=some (.int .u8)) (hd:P.underlying dst=some .string)
  {W:World} {base n:Nat} {v:Value} {l:List UInt8} {te:TypeId} (h:W.ownsRow base te 1 v n (l.map B8)):(convert src dst v).run P W = .ok (.string ⟨l.toArray⟩) W:=by
 obtain ⟨hlen,h2⟩:=h;rcases h2 with ⟨rfl,rfl⟩ | ⟨g,cap,cur,rfl,hb,hh,hn,hm,hsz,ht⟩
 .
  have:l = []:=by simpa using hlen
  subst this;rw [run_convert_bytes_nil W src e hs he 0 0 dst hd]
  rfl
 refine QM src dst e hs he hd W g 0 n cap cur te _ l hh (by simpa using hlen) (fun i x hx => ?_);have hi:i < n:=by
  have:=(C_.1 hx).1;simp at hlen;omega
 have h3:(cur.toList.take (n*1))[i]?=some (B8 x):=by rw [ht];simp [hx]
 rw [Uw (by omega)] at h3;simpa using h3
theorem zFo {p:Prop} (h:p:=by
 intro j u hu;have hj:(⟨W.heap.size,0,none⟩ : Addr).add j=⟨W.heap.size,j,none⟩:=by unfold Addr.add;split <;> simp_all
 rw [hj];simp only [World.cell?,ate];simpa using hu):p:=h
theorem su {P:Program} {ops:Array Oper} {rest:List Oper} {o:Oper} {a:Act} {Q:Exit->Act->World->Prop} (hgd:o.guard=none) (s x:Operand) (t:TypeId)
  (ho:o.op = .call { callee:=.builtin .append,args:=#[s,x],argTypes:=#[t,t] })
  (base:Nat) (e:TypeId) (z:Value) (size bytes:Nat) (ht:P.underlying t=some (.slice e)) (hinfo:(P.info? e).map (fun i => (i.zero,i.size,i.bytes))=some (some z,size,bytes)) (hzs:z.cells.size=size) (hsz:0 < size)
  (v:Value) (n:Nat) (xs:List Value) (hs:a.eval s=v) {W:World} (hown:W.ownsRow base e size v n xs) (news:List Value) (te:TypeId) (c:Nat)
  (hx:a.eval x = .slice (some ⟨W.heap.size,0,none⟩) 1 c) (hl:news.length=size) (h1:∀ u ∈ news,u.oneCell'=true) (hsmall:n < 1048576) (hby:bytes<=1048576) (hbase:base<=W.heap.size)
  (h:∀ v' w',w'.ownsRow base e size v' (n+1) (xs ++ news)->Below base W w'->wpList P ops Q rest (a.put o.dst v') w'):wpList P ops Q (o :: rest) a (W.alloc (.cells news.toArray te)):=by
 obtain ⟨i0,hi,hz0,hz1,hz2⟩:=info_parts hinfo;refine wpList_append_own _ hgd s x t ho base e i0 z size bytes ht hi hz0 hz1 hz2 hzs hsz v n xs hs (hown.alloc _) ⟨W.heap.size,0,none⟩ 1 c news hx (by omega) ?_ h1 (by simp only [maxLen];omega) ?_ (by simp;omega) ?_
 . exact zFo
 .
  have:(n+1)*bytes<=1048576*1048576:=Nat.mul_le_mul (by omega) hby
  omega
 intro v' w' h2 h3 _;exact h v' w' h2 (((g_ base W).alloc hbase _).grown h3 (by simp;omega) (fun k hk => (hown.lt k hk).1))
def Rd (w:World) (B size:Nat) (v:Value) (n:Nat) (xs:List Value):Prop :=
 xs.length=n*size/\∃ A c,v = .slice A n c/\n<=c/\(n=0\/∃ b o,A=some ⟨b,o,none⟩/\b < B/\∀ j u,xs[j]?=some u->w.cell? ⟨b,o+j,none⟩=some u)
section
variable {w w':World} {B B' size n:Nat} {v:Value} {xs:List Value}
theorem Rd.nil_ (w:World) (B size:Nat):Rd w B size (.slice none 0 0) 0 []:=⟨by simp,none,0,rfl,b_ _,.inl rfl⟩
theorem Rd.keep (h:Rd w B size v n xs) (hk:∀ p:Addr,p.block < B->w'.cell? p=w.cell? p):Rd w' B size v n xs:=by
 obtain ⟨hl,A,c,hv,hc,h2⟩:=h;refine ⟨hl,A,c,hv,hc,?_⟩;rcases h2 with h2 | ⟨b,o,hA,hb,hcell⟩
 . exact .inl h2
 exact .inr ⟨b,o,hA,hb,fun j u hu => (hk _ hb).trans (hcell j u hu)⟩
theorem zGv {p:Prop} (h:p:=by
 rcases h2 with h2 | ⟨b,o,hA,hb,hcell⟩
 . exact .inl h2
 exact .inr ⟨b,o,hA,by omega,hcell⟩):p:=h
theorem Rd.mono (h:Rd w B size v n xs) (hB:B<=B'):Rd w B' size v n xs:=by
 obtain ⟨hl,A,c,hv,hc,h2⟩:=h;refine ⟨hl,A,c,hv,hc,?_⟩;exact zGv
theorem Rd.below (h:Rd w B size v n xs) (hb:Below B w w'):Rd w' B size v n xs:=h.keep fun _ hp => hb.cell hp
theorem Rd.alloc (h:Rd w B size v n xs) (hB:B<=w.heap.size) (o:Obj):Rd (w.alloc o) B size v n xs:=h.keep fun p hp => D_ (Below.heap_alloc w o p.block (by omega))
theorem Rd.form (h:Rd w B size v n xs):∃ A c,v = .slice A n c/\n<=c:=by
 obtain ⟨_,A,c,hv,hc,_⟩:=h;exact ⟨A,c,hv,hc⟩
theorem Rd.at_ {A:Option Addr} {c:Nat} (h:Rd w B size (.slice A n c) n xs) (hn:0 < n):∃ b o,A=some ⟨b,o,none⟩/\b < B/\∀ j u,xs[j]?=some u->w.cell? ⟨b,o+j,none⟩=some u:=by
 obtain ⟨hl,A',c',hv,hc,h2⟩:=h;injection hv with h3 h4 h5;subst h3;rcases h2 with h2 | h2
 . omega
 exact h2
theorem zGr {p:Prop} (h:p:=by
 rcases QC g w.heap.size with h3 | h3
 . exact h3
 rw [Array.getElem?_eq_none h3] at hh;cases hh):p:=h
theorem Rd.uX {base:Nat} {e:TypeId} (h:w.ownsRow base e size v n xs):Rd w w.heap.size size v n xs:=by
 have h0:=h;obtain ⟨hl,h2⟩:=h;rcases h2 with ⟨rfl,rfl⟩ | ⟨g,cap,cur,rfl,hb,hh,hn,hm,hsz,ht⟩
 . exact ⟨hl,none,0,rfl,b_ _,.inl rfl⟩
 refine ⟨hl,_,cap,rfl,hn,.inr ⟨g,0,rfl,?_,fun j u hu => ?_⟩⟩
 . exact zGr
 have:=h0.cells (g:=g) rfl j u hu;have e:(⟨g,0,none⟩ : Addr).add j=⟨g,0+j,none⟩:=by unfold Addr.add;split <;> simp_all
 rwa [e] at this
theorem own_below {base:Nat} {e:TypeId} (h:w.ownsRow base e size v n xs) (hb:Below w.heap.size w w'):w'.ownsRow base e size v n xs :=
 h.kept (row:=none) ⟨hb.os,hb.tape,hb.output,hb.size,fun k hk _ => hb.block k hk⟩ (by
  cases hv:v.ownBlock with
  | none => exact .inl rfl
  | some k => exact .inr (by simp))
theorem own_base {base base':Nat} {e:TypeId} (h:w.ownsRow base e size v n xs) (hb:base'<=base):w.ownsRow base' e size v n xs:=by
 obtain ⟨hl,h2⟩:=h;refine ⟨hl,?_⟩;rcases h2 with h2 | ⟨g,cap,cur,hv,hb2,h3⟩
 . exact .inl h2
 exact .inr ⟨g,cap,cur,hv,by omega,h3⟩
end
def I64 (n:Int):Prop := -9223372036854775808<=n/\n<=9223372036854775807
theorem ad3:ownKnob Tryz.prog.godebug=none:=by kernel_rfl
theorem ad4:laidOutB Tryz.prog=true:=by kernel_rfl
theorem UN {H:Type} {enc:TypeId × Value->H} {P:Program} (hl:laidOutB P=true) {W W':World} (hb:Below W.heap.size W W') :
  ∀ (ts:List TypeId) (vs:List Value) (ds:List (DataW H)) (ps:List MemPlace),ts.all (fun t => P.readableRec t && decide (t < P.types.size))=true ->
   DataW.TrodAll enc P W 0 (fun _ => true) true ts vs ds ps->(∀ x ∈ ps,x.block < W.heap.size)->DataW.TrodAll enc P W' 0 (fun b => decide (b < W.heap.size)) true ts vs ds ps:=by
 intro ts
 induction ts with
 | nil => intro vs ds ps _ h _;exact (match vs,ds,h with | [],[],h => h)
 | cons t ts ih =>
  intro vs ds ps hall h hlt
  match vs,ds,h with
  | v :: vs,d :: ds,⟨p,q,h1,h2,e⟩ =>
   subst e;simp only [V7,j_,w_] at hall;exact ⟨p,q,Below.trod hl hall.1.1 hall.1.2 h1 hb (fun x hx => hlt x (List.mem_append_left _ hx)),ih vs ds q hall.2 h2 (fun x hx => hlt x (List.mem_append_right _ hx)),rfl⟩
theorem qI:(∀ (l:List Value) (i:Nat),l.toArray[i]?=l[i]?)/\(∀ (x:Value) (l:List Value) (i:Nat),(x :: l)[i+1]?=l[i]?)/\(∀ (x:Value) (l:List Value),(x :: l)[0]?=some x):=⟨fun _ _ => by simp,fun _ _ _ => by simp,fun _ _ => by simp⟩
theorem Oe (w:World):∀ o1 o2:Obj,Below w.heap.size w ((w.alloc o1).alloc o2):=fun o1 o2 => ((g_ w.heap.size w).alloc (b_ _) o1).alloc (show w.heap.size<=(w.alloc o1).heap.size by simp) o2
theorem KH (w:World):∀ o1 o2 o3:Obj,Below w.heap.size w (((w.alloc o1).alloc o2).alloc o3):=fun o1 o2 o3 => (((g_ w.heap.size w).alloc (b_ _) o1).alloc (show w.heap.size<=(w.alloc o1).heap.size by simp) o2).alloc (show w.heap.size<=((w.alloc o1).alloc o2).heap.size by simp;omega) o3
end Go.Proofs.YtkaedmpppnnamaaGreatDoor
namespace Go.Proofs.YtkaedmpppnnamaaGreatDoor
open ChangeShapes WideShapes ChangeAt RowKit
def ru:Nat->Nat->List UInt8->Nat × Nat × Nat
 | _,_,[] => (0,0,10)
 | i,n,b :: r =>
  if i=9/\1 < b.toNat then (0,0,7)
  else if 128<=b.toNat then ru (i+1) (n+b.toNat % 128*128 ^ i) r
  else if b.toNat=0/\0 < i then (0,0,2)
  else (n+b.toNat*128 ^ i,i+1,0)
theorem byte_at (l:List UInt8) (k:Nat) (h:k < l.length):∃ b r,l.drop k=b :: r/\({ data:=l.toArray } : ByteArray)[k]'(by simpa [ByteArray.size] using h)=b/\l.drop (k+1)=r:=by
 refine ⟨l[k],l.drop (k+1),A_ h,rfl,rfl⟩
theorem aiJ (k:Nat):(2:Int) ^ (7*k)=((128 ^ k:Nat):Int):=by
 rw [show (128:Nat)=2 ^ 7 from rfl,<- Nat.pow_mul]
 norm_cast
theorem VH (n x k:Nat) (hn:n < 128 ^ k) (hx:x < 128) (hk:k<=8\/(k=9/\x<=1)) :
  bits .or .u64 (n:Int) (IntKind.u64.wrap ((x:Int)*2 ^ (7*k)))=((n+x*128 ^ k:Nat):Int)/\n+x*128 ^ k < 128 ^ (k+1)/\n+x*128 ^ k < 18446744073709551616:=by
 have h1:n+x*128 ^ k < 128 ^ (k+1):=by
  rw [T_,QH _ 128];have:x*128 ^ k<=127*128 ^ k:=P_ _ (by omega);omega
 have h2:n+x*128 ^ k < 18446744073709551616:=by
  rcases hk with hk | ⟨rfl,hx1⟩
  .
   have:128 ^ (k+1)<=128 ^ 9:=Nat.pow_le_pow_right (by omega) (by omega);have e:(128:Nat) ^ 9 < 18446744073709551616:=by decide
   omega
  have:x*128 ^ 9<=1*128 ^ 9:=P_ _ hx1;have e:(128:Nat) ^ 9=9223372036854775808:=by decide
  omega
 refine ⟨?_,h1,h2⟩;rw [aiJ,<- Int.natCast_mul,H_];have h3:((x*128 ^ k:Nat):Int) % 18446744073709551616=((x*128 ^ k:Nat):Int):=by
  apply Int.emod_eq_of_lt <;> omega
 rw [h3,u64_or_nat _ _ (by omega) (by omega)]
 congr 1
 have e7:(128:Nat) ^ k=2 ^ (7*k):=by rw [show (128:Nat)=2 ^ 7 from rfl,<- Nat.pow_mul]
 rw [e7] at hn ⊢;have:=Nat.two_pow_add_eq_or_of_lt hn x;rw [Nat.or_comm,QH x,<- this,Nat.add_comm]
theorem aiK (b:UInt8):IntKind.u64.wrap (bits .and .u8 (b.toNat:Int) 127)=((b.toNat % 128:Nat):Int):=by
 have hb:=b.toNat_lt;have h:bits .and .u8 (b.toNat:Int) 127=(b.toNat:Int) % 128:=bits_mask .u8 8 (by decide) wraps_u8 7 (by decide) _ (by omega) (by omega);rw [h,H_];omega
theorem Jm (i n:Nat) (b:UInt8) (r:List UInt8) (h:i=9) (h1:1 < b.toNat):ru i n (b :: r)=(0,0,7):=by
 rw [ru,o_ ⟨h,h1⟩]
theorem Gx (i n:Nat) (b:UInt8) (r:List UInt8) (h:¬ (i=9/\1 < b.toNat)) (h1:128<=b.toNat):ru i n (b :: r)=ru (i+1) (n+b.toNat % 128*128 ^ i) r:=by
 rw [ru,gB h,o_ h1]
theorem Ig (i n:Nat) (b:UInt8) (r:List UInt8) (h:¬ (i=9/\1 < b.toNat)) (h1:b.toNat=0) (h2:0 < i):ru i n (b :: r)=(0,0,2):=by
 rw [ru,gB h,gB (by omega),o_ ⟨h1,h2⟩]
theorem Ed (i n:Nat) (b:UInt8) (r:List UInt8) (h:¬ (i=9/\1 < b.toNat)) (h1:b.toNat < 128) (h2:¬ (b.toNat=0/\0 < i)):ru i n (b :: r)=(n+b.toNat*128 ^ i,i+1,0):=by
 rw [ru,gB h,gB (by omega),gB h2]
theorem or_zero (n k x:Nat) (hx:x=0) (h:bits .or .u64 (n:Int) (IntKind.u64.wrap ((x:Int)*2 ^ (7*k)))=((n+x*128 ^ k:Nat):Int)):bits .or .u64 (n:Int) 0=((n+x*128 ^ k:Nat):Int):=by
 rw [<- h,hx,Int.natCast_zero,Int.zero_mul];rfl
theorem agS (n k x:Nat) (hk:k=9) (hx:x<=1) (h:bits .or .u64 (n:Int) (IntKind.u64.wrap ((x:Int)*2 ^ (7*k)))=((n+x*128 ^ k:Nat):Int)):bits .or .u64 (n:Int) ((x:Int)*9223372036854775808)=((n+x*128 ^ k:Nat):Int):=by
 rw [<- h,hk,H_]
 congr 1
 rw [show (2:Int) ^ (7*9)=9223372036854775808 from rfl];omega
theorem ad5 (a b:Int) {a':Int} {q:Nat} (h:a=a') (h2:b=(q:Int)):Ending.returned (.tuple #[.int .u64 a,.int .i64 b,.int .i64 0])=Ending.returned (.tuple #[.int .u64 a',.int .i64 (q:Int),.int .i64 0]):=by
 rw [h,h2]
theorem get_any (l:List UInt8) (w:World) :
  Calls Tryz.prog 145 #[.string ⟨l.toArray⟩] w fun e w' => e = .returned (.tuple #[.int .u64 (ru 0 0 l).1,.int .i64 (ru 0 0 l).2.1,.int .i64 (ru 0 0 l).2.2])/\w=w':=by
 go_enter Tryz.func145,Tryz.ntmps145
 go_wp2
 all_goals
  go_loop [5,11] (fun a i => ∃ k n:Nat,k<=9/\k<=l.length/\a = .int .u64 n/\i = .int .i64 k/\ru 0 0 l=ru k n (l.drop k)/\Hid (n < 128 ^ k)) (fun _ i => 10 - (intOf i).toNat)
  case atStart => exact ⟨0,0,by omega,by omega,rfl,rfl,rfl,by show _ < _;omega⟩
  case round =>
   obtain ⟨k,n,hk,hk2,rfl,rfl,hp,hm⟩:=hrel;have Hp:=Lib.hid hp;clear hp;by_cases hlt:k < l.length
   .
    obtain ⟨b,r,hd,hb,hr⟩:=byte_at l k hlt;have Hd:=Lib.hid hd;have Hr:=Lib.hid hr;clear hd hr;have hbl:b.toNat < 256:=b.toNat_lt;go_wp2
    all_goals first
     | (go_ret3;refine ⟨?_,rfl⟩;rw [Hp.out,Hd.out,Jm k n b r (by omega) (by omega)];rfl)
     | (go_ret3;refine ⟨?_,rfl⟩;rw [Hp.out,Hd.out,Ig k n b r (by omega) (by omega) (by omega)];rfl)
     | (
      go_ret3;refine ⟨?_,rfl⟩;have hx:b.toNat < 128:=by omega
      have hg:=VH n b.toNat k hm.out hx (by omega);rw [Hp.out,Hd.out,Ed k n b r (by omega) (by omega) (by omega)];refine ad5 (a':=((n+b.toNat*128 ^ k:Nat):Int)) (q:=k+1) _ _ ?_ ?_
      . first | (with_reducible exact hg.1) | (refine or_zero n k b.toNat ?_ hg.1;omega) | (refine agS n k b.toNat ?_ ?_ hg.1 <;> omega)
      first | (with_reducible rfl) | omega)
     | (
      go_round
      case rel =>
       have hg:=VH n (b.toNat % 128) k hm.out (by omega) (by omega);exact ⟨k+1,n+b.toNat % 128*128 ^ k,by omega,by omega,by rw [aiK,hg.1],by go_num,by rw [Hp.out,Hd.out,Hr.out,Gx k n b r (by omega) (by omega)],hg.2.1⟩
      case measure => simp [intOf];omega)
   have hke:k=l.length:=by omega
   clear hm;go_wp2
   all_goals go_ret3
   all_goals refine ⟨?_,rfl⟩
   all_goals rw [Hp.out,List.drop_of_length_le (by omega)]
   all_goals rfl
def Ci:List UInt8->Nat->Nat
 | [],n => n
 | b :: r,n => Ci r (n*256+b.toNat)
def jX (l:List UInt8):Nat × Nat :=
 if l.head?=some 0 then (0,2) else if 8 < l.length then (0,7) else (Ci l 0,0)
theorem YC (n:Nat) (b:UInt8) (k:Nat) (h:n < 256 ^ k) (hk:k < 8):bits .or .u64 (IntKind.u64.wrap ((n:Int)*256)) (b.toNat:Int)=((n*256+b.toNat:Nat):Int)/\n*256+b.toNat < 256 ^ (k+1):=by
 have hb:=b.toNat_lt;have h7:256 ^ k<=256 ^ 7:=Nat.pow_le_pow_right (by omega) (by omega);have e7:(256:Nat) ^ 7=72057594037927936:=by decide
 refine ⟨?_,by rw [T_];omega⟩;have e:IntKind.u64.wrap ((n:Int)*256)=((n*256:Nat):Int):=by rw [H_];omega
 rw [e,u64_or_nat _ _ (by omega) (by omega)]
 congr 1
 have:=Nat.two_pow_add_eq_or_of_lt (show b.toNat < 2 ^ 8 from hb) n;rw [QH n,show (256:Nat)=2 ^ 8 from rfl,<- this]
theorem byte_zero (b:UInt8) (h:b.toNat=0):b=0:=UInt8.toNat_inj.1 (by simpa using h)
theorem Og (l:List UInt8) (w:World) (hlen:l.length<=9223372036854775807) :
  Calls Tryz.prog 77 #[.string ⟨l.toArray⟩] w fun e w' => e = .returned (.tuple #[.int .u64 (jX l).1,.int .i64 (jX l).2])/\w=w':=by
 match l,hlen with
 | [],_ =>
  go_enter Tryz.func77,Tryz.ntmps77
  go_wp2
  go_rounds 1
  go_ret2;exact ⟨rfl,rfl⟩
 | b :: r,hlen =>
  have hb:({ data:=(b :: r).toArray } : ByteArray)[0]'(by simp [ByteArray.size])=b:=rfl;by_cases h0:b.toNat=0
  .
   have H0:=Lib.hid h0;have h0':((b.toNat:Int) == 0)=true:=TL.2 (by omega);clear h0;go_enter Tryz.func77,Tryz.ntmps77
   go_wp2
   go_ret2;refine ⟨?_,rfl⟩;rw [jX,o_ (by simp [byte_zero b H0.out])]
   rfl
  have h0':((b.toNat:Int) == 0)=false:=r_.2 (by omega);have hf:¬ (b :: r).head?=some 0:=fun h => h0 (by simp at h;rw [h];rfl);have HF:=Lib.hid hf;clear hf h0;by_cases h8:8 < (r.length:Int)+1
  .
   go_enter Tryz.func77,Tryz.ntmps77
   go_wp2
   go_ret2;refine ⟨?_,rfl⟩;rw [jX,gB HF.out,o_ (by simp;omega)]
   rfl
  go_enter Tryz.func77,Tryz.ntmps77
  go_wp2
  clear hb h0';go_loop [4,18] (fun a i => ∃ k n:Nat,k<=r.length+1/\a = .int .u64 n/\i = .int .i64 k/\Ci (b :: r) 0=Ci ((b :: r).drop k) n/\Hid (n < 256 ^ k)) (fun _ i => r.length+1 - (intOf i).toNat)
  case atStart => exact ⟨0,0,by omega,rfl,rfl,rfl,by show _ < _;omega⟩
  case round =>
   obtain ⟨k,n,hk,rfl,rfl,hp,hm⟩:=hrel;have Hp:=Lib.hid hp;clear hp;by_cases hlt:k < r.length+1
   .
    obtain ⟨x,q,hd,hx,hq⟩:=byte_at (b :: r) k (by simpa using hlt);have Hd:=Lib.hid hd;have Hq:=Lib.hid hq;clear hd hq;obtain ⟨m,hmv,Hm⟩ : ∃ m:Nat,bits .or .u64 (IntKind.u64.wrap ((n:Int)*256)) (x.toNat:Int)=(m:Int)/\Hid (m=n*256+x.toNat):=⟨_,(YC n x k hm.out (by omega)).1,rfl⟩
    have hxl:x.toNat < 256:=x.toNat_lt;go_wp2
    go_round
    case rel => exact ⟨k+1,m,by omega,rfl,by go_num,by rw [Hp.out,Hd.out,Hq.out,Ci,Hm.out],by have:=(YC n x k hm.out (by omega)).2;have e:=Hm.out;show m < _;omega⟩
    case measure => simp [intOf];omega
   go_wp2
   go_ret2;refine ⟨?_,rfl⟩;rw [jX,gB HF.out,gB (by simp;omega),Hp.out,List.drop_of_length_le (by simp;omega)]
   rfl
def zig (n:Int):Int:=if 0<=n then 2*n else -2*n - 1
def yU (n:Int):Int:=if n % 2=0 then n / 2 else -(n / 2) - 1
theorem VI (b:Nat) (hb:b < 2 ^ 64):(2 ^ 64 - 1) ^^^ b=2 ^ 64 - 1 - b:=by
 apply Nat.eq_of_testBit_eq
 intro i;rw [Nat.testBit_xor,Nat.testBit_two_pow_sub_one,show 2 ^ 64 - 1 - b=2 ^ 64 - (b+1) by omega,Nat.testBit_two_pow_sub_succ hb];by_cases hi:i < 64
 . simp [hi]
 have:b.testBit i=false:=Nat.testBit_lt_two_pow (u_ hb (Nat.pow_le_pow_right (by decide) (by omega)));simp [hi,this]
theorem ad6 (n:Int) (h:I64 n):bits .xor .u64 (IntKind.u64.wrap (IntKind.u64.wrap n*2)) (IntKind.u64.wrap (n / 9223372036854775808))=zig n:=by
 obtain ⟨h0,h1⟩:=h;unfold zig;split
 .
  have e1:IntKind.u64.wrap (IntKind.u64.wrap n*2)=(((2*n).toNat:Nat):Int):=by
   rw [H_,H_];omega
  have e2:IntKind.u64.wrap (n / 9223372036854775808)=((0:Nat):Int):=by
   rw [H_];omega
  rw [e1,e2,u64_xor_nat _ _ (by omega) (by omega),Nat.xor_zero];omega
 have e1:IntKind.u64.wrap (IntKind.u64.wrap n*2)=(((2*n+18446744073709551616).toNat:Nat):Int):=by
  rw [H_,H_];omega
 have e2:IntKind.u64.wrap (n / 9223372036854775808)=((2 ^ 64 - 1:Nat):Int):=by
  rw [H_];omega
 rw [e1,e2,u64_xor_nat _ _ (by omega) (by decide),Nat.xor_comm,VI _ (by omega)];omega
theorem YD (n:Int) (h:I64 n) (w:World):Calls Tryz.prog 132 #[.int .i64 n] w fun e w' => e = .returned (.int .u64 (zig n))/\w=w':=by
 have H:=Lib.hid (ad6 n h);go_enter Tryz.func132,Tryz.ntmps132
 go_wp2
 go_ret;exact ⟨by rw [<- H.out];rfl,rfl⟩
theorem Ph (n:Int) (h:I64 n) (w:World):Calls Tryz.prog 45 #[.int .i64 n] w fun e w' => e = .returned (.int .u64 (zig n))/\w=w':=by
 by_cases hn:0<=n
 .
  go_enter Tryz.func45,Tryz.ntmps45
  go_wp2
  go_ret;refine ⟨bC ?_,rfl⟩;obtain ⟨h0,h1⟩:=h;unfold zig;rw [o_ hn,H_,H_];omega
 go_enter Tryz.func45,Tryz.ntmps45
 go_wp2
 go_ret;refine ⟨bC ?_,rfl⟩;obtain ⟨h0,h1⟩:=h;unfold zig;rw [gB (by omega)];simp only [H_,wrap64];omega
theorem TT (n:Int) (h:I64 n):0<=zig n/\zig n < 18446744073709551616:=by
 obtain ⟨h0,h1⟩:=h;unfold zig;split <;> omega
theorem KJ (n:Int):yU (zig n)=n:=by
 unfold zig yU;split <;> split <;> omega
theorem and_one (n:Int) (h0:0<=n) (h1:n < 18446744073709551616):bits .and .u64 n 1=n % 2:=by
 have h:=bits_mask .u64 64 (by decide) (fun n h0 h1 => by rw [H_];omega) 1 (by decide) n h0 (by omega);simpa using h
theorem agT (x:Nat) (hx:x < 9223372036854775808):bits .xor .i64 (x:Int) (-1) = -(x:Int) - 1:=by
 show IntKind.i64.wrap ((BitVec.ofInt 64 (x:Int) ^^^ BitVec.ofInt 64 (-1)).toNat:Int)=_;have h1:(BitVec.ofInt 64 (-1)).toNat=2 ^ 64 - 1:=by decide
 have h2:(BitVec.ofInt 64 (x:Int)).toNat=x:=by
  rw [BitVec.ofInt_natCast,BitVec.toNat_ofNat];exact Nat.mod_eq_of_lt (by omega)
 rw [BitVec.toNat_xor,h1,h2,Nat.xor_comm,VI x (by omega),Qz];omega
theorem agU (x:Nat) (hx:x < 9223372036854775808):bits .xor .i64 (x:Int) 0=(x:Int):=by
 show IntKind.i64.wrap ((BitVec.ofInt 64 (x:Int) ^^^ BitVec.ofInt 64 0).toNat:Int)=_;have h1:(BitVec.ofInt 64 0).toNat=0:=by decide
 have h2:(BitVec.ofInt 64 (x:Int)).toNat=x:=by
  rw [BitVec.ofInt_natCast,BitVec.toNat_ofNat];exact Nat.mod_eq_of_lt (by omega)
 rw [BitVec.toNat_xor,h1,h2,Nat.xor_zero,Qz];omega
theorem ZF (n:Nat) (h:oV n):bits .xor .i64 (wrap64 ((n:Int) / 2)) (wrap64 (- wrap64 (bits .and .u64 (n:Int) 1)))=yU n:=by
 unfold oV at h;rw [and_one _ (by omega) (by omega)];unfold yU;have e:wrap64 ((n:Int) / 2)=((n / 2:Nat):Int):=by unfold wrap64;omega
 rw [e];split
 .
  have e2:wrap64 (- wrap64 ((n:Int) % 2))=0:=by unfold wrap64;omega
  rw [e2,agU _ (by omega)];omega
 have e2:wrap64 (- wrap64 ((n:Int) % 2)) = -1:=by unfold wrap64;omega
 rw [e2,agT _ (by omega)];omega
theorem abR (n:Nat) (h:oV n) (w:World):Calls Tryz.prog 78 #[.int .u64 n] w fun e w' => e = .returned (.int .i64 (yU n))/\w=w':=by
 have H:=Lib.hid (ZF n h);go_enter Tryz.func78,Tryz.ntmps78
 go_wp2
 go_ret;exact ⟨by rw [<- H.out];rfl,rfl⟩
theorem XZ (n:Nat) (h:oV n):I64 (yU n):=by
 unfold oV at h;unfold yU I64;split <;> omega
def Cj (c:UInt8):Bool:=c.toNat == 95 || (decide (97<=c.toNat) && decide (c.toNat<=122)) || (decide (65<=c.toNat) && decide (c.toNat<=90))
def Ih (c:UInt8):Bool:=decide (48<=c.toNat) && decide (c.toNat<=57)
def nameB (l:List UInt8):Bool:=decide (0 < l.length) && (decide (l.length<=24) && (Cj (l.headD 0) && l.all (fun c => Cj c || Ih c)))
theorem zEs {p:Prop} (h:p:=by
 go_wp2
 all_goals
  go_ret;refine ⟨au ?_,rfl⟩;rw [Bool.eq_iff_iff];simp;try omega):p:=h
theorem VJ (c:UInt8) (w:World):Calls Tryz.prog 121 #[B8 c] w fun e w' => e = .returned (.bool (Cj c))/\w=w':=by
 have h0:c.toNat < 256:=c.toNat_lt;unfold B8;unfold Cj;generalize c.toNat=n at *;go_enter Tryz.func121,Tryz.ntmps121
 exact zEs
theorem TU (c:UInt8) (w:World):Calls Tryz.prog 118 #[B8 c] w fun e w' => e = .returned (.bool (Cj c))/\w=w':=by
 have h0:c.toNat < 256:=c.toNat_lt;unfold B8;unfold Cj;generalize c.toNat=n at *;go_enter Tryz.func118,Tryz.ntmps118
 exact zEs
theorem ad7 (c:UInt8) (w:World):Calls Tryz.prog 122 #[B8 c] w fun e w' => e = .returned (.bool (Ih c))/\w=w':=by
 have h0:c.toNat < 256:=c.toNat_lt;unfold B8;unfold Ih;generalize c.toNat=n at *;go_enter Tryz.func122,Tryz.ntmps122
 exact zEs
theorem abS (c:UInt8) (w:World):Calls Tryz.prog 119 #[B8 c] w fun e w' => e = .returned (.bool (Ih c))/\w=w':=by
 have h0:c.toNat < 256:=c.toNat_lt;unfold B8;unfold Ih;generalize c.toNat=n at *;go_enter Tryz.func119,Tryz.ntmps119
 exact zEs
theorem Jo (l:List UInt8) (k:Nat) (h:k < l.length):∃ (b:UInt8) (r:List UInt8),l.drop k=b :: r/\({ data:=l.toArray } : ByteArray)[k]'(by simpa [ByteArray.size] using h)=b/\l.drop (k+1)=r:=by
 refine ⟨l[k],l.drop (k+1),A_ h,?_,rfl⟩;show l.toArray[k]=_;simp
theorem SC (l:List UInt8) (h:l.length=0\/24 < l.length):nameB l=false:=by
 unfold nameB;rcases h with h | h
 . rw [f_ (by omega)];rfl
 rw [f_ (p:=l.length<=24) (by omega)];simp
theorem VK (l:List UInt8) (c:UInt8) (r:List UInt8) (h:0 < l.length) (h2:l.length<=24) (hd:l.drop 0=c :: r):nameB l=(Cj c && l.all (fun c => Cj c || Ih c)):=by
 rw [WM] at hd;unfold nameB;rw [n_ h,n_ h2,hd];rfl
theorem zIt {p:Prop} (h:p:=by
 rintro e w2 ⟨rfl,rfl⟩;go_wp2_with fail;go_round
 case rel => exact ⟨k+1,by omega,by go_num,Hp.out⟩
 case measure => simp [intOf];omega):p:=h
theorem zCr {p:Prop} (h:p:=by
 clear hd2 hr2;cases hlb:Cj b with
 | true =>
  rw [hlb] at hLb hp;rw [Bool.true_or,CX] at hp;have Gy:=Lib.hid hLb;have Hp:=Lib.hid hp;clear hLb FC hp hlb;go_wp2_with fail;refine (Gy.out _).mono ?_;exact zIt
 | false =>
  cases hdb:Ih b with
  | true =>
   rw [hlb] at hLb hp;rw [hdb] at FC hp;rw [Bool.or_true,CX] at hp;have Gy:=Lib.hid hLb;have VL:=Lib.hid FC;have Hp:=Lib.hid hp;clear hLb FC hp hlb hdb;go_wp2_with fail;refine (Gy.out _).mono ?_;rintro e w2 ⟨rfl,rfl⟩;go_wp2_with fail;refine (VL.out _).mono ?_;exact zIt
  | false =>
   rw [hlb] at hLb hp;rw [hdb] at FC hp;rw [Bool.or_false,QE] at hp;have Gy:=Lib.hid hLb;have VL:=Lib.hid FC;have Hp:=Lib.hid hp;clear hLb FC hp hlb hdb;go_wp2_with fail;refine (Gy.out _).mono ?_;rintro e w2 ⟨rfl,rfl⟩;go_wp2_with fail;refine (VL.out _).mono ?_;rintro e w2 ⟨rfl,rfl⟩;go_wp2_with fail;go_ret;exact ⟨au Hp.out.symm,rfl⟩):p:=h
theorem zGd {p:Prop} (h:p:=by
 rw [G_ (by omega)] at hp;have Hp:=Lib.hid hp;clear hp;go_wp2_with fail;go_ret;exact ⟨au (by rw [Hp.out];rfl),rfl⟩):p:=h
theorem zGg {p:Prop} (h:p:=by
 go_wp2_with fail;refine (HL.out _).mono ?_;rintro e w2 ⟨rfl,rfl⟩;go_wp2_with fail;go_ret;exact ⟨au (by rw [Hn.out];rfl),rfl⟩):p:=h
theorem yj (l:List UInt8) (w:World):Calls Tryz.prog 99 #[.string ⟨l.toArray⟩] w fun e w' => e = .returned (.bool (nameB l))/\w=w':=by
 by_cases h0:l.length=0
 .
  obtain rfl:l = []:=yS h0;go_enter Tryz.func99,Tryz.ntmps99
  go_wp2
  go_ret;exact ⟨rfl,rfl⟩
 have hne:¬ l = []:=fun h => h0 (by rw [h];rfl);by_cases hl:24 < l.length
 .
  have hn:=Lib.hid (SC l (.inr hl));go_enter Tryz.func99,Tryz.ntmps99
  go_wp2
  go_ret;exact ⟨au hn.out.symm,rfl⟩
 have hl1:0 < l.length:=by omega
 have hl2:(l.length:Int)<=24:=by omega
 have hie:l.isEmpty=false:=by cases l with | nil => exact absurd rfl hne | cons _ _ => rfl
 have h24:decide (24 < (l.length:Int))=false:=f_ (by omega);obtain ⟨c,r,hd,hb,-⟩:=Jo l 0 hl1;have hn:=VK l c r hl1 (by omega) hd;have hL:=fun W => VJ c W;clear hd h0 hl;cases hc:Cj c with
 | false =>
  rw [hc] at hL hn;have HL:=Lib.hid hL;have Hn:=Lib.hid hn;clear hL hc hn;go_enter Tryz.func99,Tryz.ntmps99
  exact zGg
 | true =>
  rw [hc] at hL hn;rw [CX] at hn;have HL:=Lib.hid hL;have Hn:=Lib.hid hn;clear hL hc hn;go_enter Tryz.func99,Tryz.ntmps99
  go_wp2_with fail;refine (HL.out _).mono ?_;rintro e w2 ⟨rfl,rfl⟩;clear hb;go_wp2_with fail;go_loop [19] (fun i => ∃ k:Nat,k<=l.length/\i = .int .i64 k/\nameB l=(l.drop k).all (fun c => Cj c || Ih c)) (fun i => l.length - (intOf i).toNat)
  case atStart => exact ⟨0,by omega,rfl,by rw [Hn.out];rfl⟩
  case round =>
   obtain ⟨k,hk,rfl,hp⟩:=hrel;by_cases hlt:k < l.length
   .
    obtain ⟨b,r2,hd2,hb2,hr2⟩:=Jo l k hlt;rw [hd2,V7,<- hr2] at hp;have hLb:=fun W => VJ b W;have FC:=fun W => ad7 b W;exact zCr
   exact zGd
theorem D5 (l:List UInt8) (w:World):Calls Tryz.prog 96 #[.string ⟨l.toArray⟩] w fun e w' => e = .returned (.bool (nameB l))/\w=w':=by
 by_cases h0:l.length=0
 .
  obtain rfl:l = []:=yS h0;go_enter Tryz.func96,Tryz.ntmps96
  go_wp2
  go_ret;exact ⟨rfl,rfl⟩
 have hne:¬ l = []:=fun h => h0 (by rw [h];rfl);by_cases hl:24 < l.length
 .
  have hn:=Lib.hid (SC l (.inr hl));go_enter Tryz.func96,Tryz.ntmps96
  go_wp2
  go_ret;exact ⟨au hn.out.symm,rfl⟩
 have hl1:0 < l.length:=by omega
 have hl2:(l.length:Int)<=24:=by omega
 have hie:l.isEmpty=false:=by cases l with | nil => exact absurd rfl hne | cons _ _ => rfl
 have h24:decide (24 < (l.length:Int))=false:=f_ (by omega);obtain ⟨c,r,hd,hb,-⟩:=Jo l 0 hl1;have hn:=VK l c r hl1 (by omega) hd;have hL:=fun W => TU c W;clear hd h0 hl;cases hc:Cj c with
 | false =>
  rw [hc] at hL hn;have HL:=Lib.hid hL;have Hn:=Lib.hid hn;clear hL hc hn;go_enter Tryz.func96,Tryz.ntmps96
  exact zGg
 | true =>
  rw [hc] at hL hn;rw [CX] at hn;have HL:=Lib.hid hL;have Hn:=Lib.hid hn;clear hL hc hn;go_enter Tryz.func96,Tryz.ntmps96
  go_wp2_with fail;refine (HL.out _).mono ?_;rintro e w2 ⟨rfl,rfl⟩;clear hb;go_wp2_with fail;go_loop [3] (fun i => ∃ k:Nat,k<=l.length/\i = .int .i64 k/\nameB l=(l.drop k).all (fun c => Cj c || Ih c)) (fun i => l.length - (intOf i).toNat)
  case atStart => exact ⟨0,by omega,rfl,by rw [Hn.out];rfl⟩
  case round =>
   obtain ⟨k,hk,rfl,hp⟩:=hrel;by_cases hlt:k < l.length
   .
    obtain ⟨b,r2,hd2,hb2,hr2⟩:=Jo l k hlt;rw [hd2,V7,<- hr2] at hp;have hLb:=fun W => TU b W;have FC:=fun W => abS b W;exact zCr
   exact zGd
def Has (w:World) (g:Nat) (t:TypeId) (cs:Array Value):Prop:=w.heap[g]?=some (.cells cs t (0,0))
section
variable {w w':World} {g:Nat} {t:TypeId} {cs:Array Value}
theorem Has.here (h:Has w g t cs):g < w.heap.size:=by
 rcases QC g w.heap.size with h1 | h1
 . exact h1
 unfold Has at h;rw [Array.getElem?_eq_none h1] at h;cases h
theorem Has.cell (h:Has w g t cs) (i:Nat):w.cell? ⟨g,i,none⟩=cs[i]?:=by
 unfold Has at h;simp [World.cell?,h]
theorem Has.free (h:Has w g t cs) (i:Nat):w.frozen? ⟨g,i,none⟩=false:=by
 unfold Has at h;simp [World.frozen?,h]
theorem Has.made (w:World) (t:TypeId) (cs:Array Value):Has (w.alloc (.cells cs t)) w.heap.size t cs:=heap_alloc_new w _
theorem Has.alloc (h:Has w g t cs) (o:Obj):Has (w.alloc o) g t cs:=(Below.heap_alloc w o g h.here).trans h
theorem Has.drew (h:Has w g t cs):Has w.drew g t cs:=h
theorem Has.drewN (h:Has w g t cs) (n:Nat):Has (w.drewN n) g t cs:=h
theorem Has.set (h:Has w g t cs) (i:Nat) (u:Value):Has (w.setCell ⟨g,i,none⟩ u) g t (cs.setIfInBounds i u):=by
 unfold Has at h ⊢;simp [World.setCell,Array.getElem?_modify,h]
theorem Has.far (h:Has w g t cs) {p:Addr} (hp:g≠p.block) (u:Value):Has (w.setCell p u) g t cs:=(Below.heap_setCell w p u g hp).trans h
theorem Has.below {B:Nat} (h:Has w g t cs) (hb:Below B w w') (hg:g < B):Has w' g t cs:=(hb.block g hg).trans h
end
theorem tC {P:Program} {ops:Array Oper} {rest:List Oper} {o:Oper} {a:Act} {Q:Exit->Act->World->Prop} (hgd:o.guard=none) (s x:Operand) (t:TypeId)
  (ho:o.op = .call { callee:=.builtin .append,args:=#[s,x],argTypes:=#[t,t] })
  (base:Nat) (e:TypeId) (z:Value) (size bytes:Nat) (ht:P.underlying t=some (.slice e)) (hinfo:(P.info? e).map (fun i => (i.zero,i.size,i.bytes))=some (some z,size,bytes)) (hzs:z.cells.size=size) (hsz:0 < size)
  (v:Value) (n:Nat) (xs:List Value) (hs:a.eval s=v) {W:World} (hown:W.ownsRow base e size v n xs) (news:List Value) (te:TypeId) (c g:Nat)
  (hx:a.eval x = .slice (some ⟨g,0,none⟩) 1 c) (hg:g=W.heap.size) (hl:news.length=size) (h1:∀ u ∈ news,u.oneCell'=true) (hsmall:n < 1048576) (hby:bytes<=1048576) (hbase:base<=W.heap.size)
  (h:∀ v' w',w'.ownsRow base e size v' (n+1) (xs ++ news)->Below base W w'->wpList P ops Q rest (a.put o.dst v') w'):wpList P ops Q (o :: rest) a (W.alloc (.cells news.toArray te)):=by
 subst hg;exact su hgd s x t ho base e z size bytes ht hinfo hzs hsz v n xs hs hown news te c hx hl h1 hsmall hby hbase h
end Go.Proofs.YtkaedmpppnnamaaGreatDoor
namespace Go.Proofs.YtkaedmpppnnamaaGreatDoor
open ChangeShapes WideShapes ChangeAt RowKit
open Go.Maps (Keyed)
open WideMaps
def qh (w:World) (b n:Nat) (S:List (List UInt8)):Prop :=
 ∃ D:DataW Unit,w.ownsMap Tryz.prog 9 (plainElem Tryz.prog 4) b n D/\∀ s:List UInt8,D.atKey (.string s) (.lit (.bool false)) = .lit (.bool (S.contains s))
theorem KL {H:Type} {P:Program} {e:TypeId} (he:P.underlying e=some .bool) {v:Value} {z:DataW H × List MemPlace} (h:plainElem P e v=some z):∃ a,v = .bool a/\z=(.lit (.bool a),[]):=by
 unfold plainElem at h;rw [he] at h;cases v <;> simp at h;exact ⟨_,rfl,h.symm⟩
theorem YE:Keyed Tryz.prog 9:=Maps.string_keyed Tryz.underlying9
theorem ad8 (w:World):(zeroValue 4).run Tryz.prog w = .ok (.bool false) w:=by kernel_rfl
theorem qh.made (w:World):qh (w.alloc (.map #[] 0)) w.heap.size 0 []:=⟨.map [],World.ownsMap_made _ _ _ _,fun _ => rfl⟩
theorem qh.here {w:World} {b n:Nat} {S:List (List UInt8)} (h:qh w b n S):b < w.heap.size:=by
 obtain ⟨D,h1,_⟩:=h;exact h1.lt
theorem qh.keep {w w':World} {b n:Nat} {S:List (List UInt8)} (h:qh w b n S) (hk:w'.heap[b]?=w.heap[b]?):qh w' b n S:=by
 obtain ⟨D,⟨es,clock,h1,h2⟩,h3⟩:=h;exact ⟨D,⟨es,clock,hk.trans h1,h2⟩,h3⟩
theorem qh.below {w w':World} {b n:Nat} {S:List (List UInt8)} (h:qh w b n S) {B:Nat} (hb:Below B w w') (hB:b < B):qh w' b n S:=h.keep (hb.block b hB)
theorem qh.look {w:World} {b n:Nat} {S:List (List UInt8)} (h:qh w b n S) (s:List UInt8) (hs:s.length<=maxLen) :
  (Instr.lookup 136 (.map (some b)) (.string ⟨s.toArray⟩) false).run Tryz.prog w = .ok (.bool (S.contains s)) w:=by
 obtain ⟨D,h1,h2⟩:=h;obtain ⟨v,ps,hrun,hv⟩:=h1.lookup YE Tryz.underlying136 (ad8 w) (plainElem_bool Tryz.underlying4 false) (keyOf_string_mk Tryz.underlying9 (s:=⟨s.toArray⟩) (by simpa [ByteArray.size] using hs));have h3:=h2 s;have h4:plainElem Tryz.prog 4 v=some ((DataW.lit (Lit.bool (S.contains s)):DataW Unit),ps):=by rw [<- h3];exact hv
 obtain ⟨a,rfl,he⟩:=KL Tryz.underlying4 h4;have h5:S.contains s=a:=by
  have:=congrArg Prod.fst he;simpa using this
 exact h5 ▸ hrun
theorem qh.put {w:World} {b n:Nat} {S:List (List UInt8)} (h:qh w b n S) (s:List UInt8) (hs:s.length<=maxLen) (hn:n < maxLen) :
  ∃ w',(Instr.mapUpdate 136 (.map (some b)) (.string ⟨s.toArray⟩) (.bool true)).run Tryz.prog w = .ok () w'/\qh w' b (n+1) (S ++ [s])/\w.grownBy w' (some b):=by
 obtain ⟨D,h1,h2⟩:=h;have hm:=h1.isMap;obtain ⟨w',r1,r2,r3⟩:=h1.update YE Tryz.underlying136 hn (keyOf_string_mk Tryz.underlying9 (s:=⟨s.toArray⟩) (by simpa [ByteArray.size] using hs)) (plainElem_bool Tryz.underlying4 true);refine ⟨w',r1,⟨_,r2,fun q => ?_⟩,r3⟩;rw [show (⟨s.toArray⟩ : ByteArray).data.toList=s by simp];by_cases hq:q=s
 .
  subst hq;rw [Maps.atKey_put_same hm (by trivial)];simp
 rw [Maps.atKey_put_other (by intro h;injection h with h;exact hq h),h2];simp [hq]
theorem aqP {ops:Array Oper} {rest:List Oper} {o:Oper} {a:Act} {Q:Exit->Act->World->Prop} {w:World} (hg:o.guard=none) (m x v:Operand) (hop:o.op=Op.mapUpdate 136 m x v)
  (b n:Nat) (S:List (List UInt8)) (hm:a.eval m = .map (some b)) (hown:qh w b n S) (hn:n < maxLen) (s:List UInt8) (hx:a.eval x = .string ⟨s.toArray⟩) (hv:a.eval v = .bool true) (hl:s.length<=maxLen)
  (hK:∀ w',qh w' b (n+1) (S ++ [s])->w.grownBy w' (some b)->wpList Tryz.prog ops Q rest (a.put o.dst undef) w'):wpList Tryz.prog ops Q (o :: rest) a w:=by
 refine wpList_plain hg fun K' hK' => ?_;obtain ⟨w',hrun,r1,r2⟩:=hown.put s hl hn;unfold Oper.wp;simp [execOp,hop,hm,hx,hv,hrun,Result.andThen];exact hK' _ _ (hK w' r1 r2)
end Go.Proofs.YtkaedmpppnnamaaGreatDoor
namespace Go.Proofs.YtkaedmpppnnamaaGreatDoor
open ChangeShapes WideShapes ChangeAt RowKit
def Sz {H:Type} (t:TypeId) (d:DataW H):Prop := ∀ n ∈ d.weights Tryz.prog t,n<=140737488351232
theorem abT:reachBytes=140737488351232:=by decide
theorem ZG {H:Type} {ts:List TypeId} {ds:List (DataW H)} (h:(DataW.weightsEach Tryz.prog ts ds).all (· <= reachBytes)=true) {j:Nat} {t:TypeId} {d:DataW H} (ht:ts[j]?=some t) (hd:ds[j]?=some d):Sz t d:=fun n hn => by
 have:=QD.1 h n (DataW.weights_mem_each ht hd n hn);rw [<- abT];simpa using this
theorem Iy {H:Type} {P:Program} {e:TypeId} : ∀ {ds:List (DataW H)} {d:DataW H},d ∈ ds->∀ n ∈ d.weights P e,n ∈ DataW.weightsAll P e ds
 | d0 :: ds,d,hd,n,hn => by
  rw [DataW.weightsAll];rcases N_.1 hd with rfl | hd
  . exact List.mem_append_left _ hn
  exact List.mem_append_right _ (Iy hd n hn)
theorem QN {H:Type} {P:Program} : ∀ {ts:List TypeId} {ds:List (DataW H)} {j:Nat} {t:TypeId} {d:DataW H},ts[j]?=some t->ds[j]?=some d->∀ n ∈ d.weights P t,n ∈ DataW.weightsEach P ts ds:=DataW.weights_mem_each
theorem Sz.str {H:Type} {t:TypeId} {b:List UInt8} (h:Sz t (.lit (.string b):DataW H)):b.length<=140737488351232:=h _ (by simp [DataW.weights])
theorem Sz.field {H:Type} {t:TypeId} {fs:Array Field} {parts:List (DataW H)} (h:Sz t (.agg parts)) (ht:Tryz.prog.underlying t=some (.struct fs)) {i:Nat} {f:Field} {d:DataW H} (hf:fs[i]?=some f) (hd:parts[i]?=some d):Sz f.type d:=fun n hn => by
 refine h n ?_;simp only [DataW.weights,ht];exact QN (j:=i) (by simpa using ⟨f,hf,rfl⟩) hd n hn
theorem Sz.len {H:Type} {t e:TypeId} {es sp:List (DataW H)} (h:Sz t (.slice es sp)) (ht:Tryz.prog.underlying t=some (.slice e)):(es.length+sp.length)*Tryz.prog.bytesOf e<=140737488351232 :=
 h _ (by simp [DataW.weights,ht])
theorem Sz.elem {H:Type} {t e:TypeId} {es sp:List (DataW H)} (h:Sz t (.slice es sp)) (ht:Tryz.prog.underlying t=some (.slice e)) {d:DataW H} (hd:d ∈ es):Sz e d:=fun n hn =>
 h n (by simp only [DataW.weights,ht];exact List.mem_cons_of_mem _ (List.mem_append_left _ (Iy hd n hn)))
section
variable {H:Type} {enc:TypeId × Value->H} {w:World} {base:Nat} {spare:Nat->Bool} {held:Bool}
theorem zEz {p:Prop} (h:p:=by
 have hj:j < size:=by rw [<- h1];exact (C_.1 hv).1
 have e1:((⟨b,o,none⟩ : Addr).add (i*size)).add j=⟨b,o+i*size+j,none⟩:=by unfold Addr.add;split <;> split <;> simp_all
 rw [<- e1,h2 j hj,hv]):p:=h
theorem zFc {p:Prop} (h:p:=by
 obtain ⟨cs',h1,h2,_⟩:=hcell 0 (by omega);have:=h2 0 hpos;have e0:(a.add (0*size)).add 0=a:=by simp [Addr.add]
 rw [e0] at this;exact ⟨cs'[0]'(by omega),by rw [this];exact m_ (by omega)⟩):p:=h
theorem zGk {p:Prop} (h:p:=by
 obtain ⟨cs',h1,h2⟩:=hel i (by omega);rw [hC] at h1;obtain ⟨_,h3,h4⟩:=World.cells?_some h1;exact ⟨cs',h3,h4,h2⟩):p:=h
theorem zGu {p:Prop} (h:p:=by
 cases hs:a.spot with
 | none => rfl
 | some s => simp [World.cell?,hs] at hu;split at hu <;> simp at hu):p:=h
theorem abU {t e:TypeId} {size fuel:Nat} {cs:List Value} {x:DataW H × List MemPlace} (ht:Tryz.prog.underlying t=some (.slice e)) (hC:Tryz.prog.cellsOf e=size) (hpos:0 < size)
  (h:DataW.trod enc Tryz.prog w base spare held fuel t cs=some x) (hs:Sz t x.1) :
  ∃ (A:Option Addr) (len cap:Nat),cs = [.slice A len cap]/\len<=cap/\len*Tryz.prog.bytesOf e<=140737488351232 /\
   (len=0\/∃ b o,A=some ⟨b,o,none⟩/\b < w.heap.size/\∃ (N:Nat) (D:Nat->DataW H) (Pl:Nat->List MemPlace),∀ i,i < len->∃ cs',cs'.length=size /\
    (∀ j u,cs'[j]?=some u->w.cell? ⟨b,o+i*size+j,none⟩=some u)/\DataW.trod enc Tryz.prog w base spare held N e cs'=some (D i,Pl i)/\Sz e (D i)):=by
 rcases Go.Deep.open_slice ht h with ⟨rfl,_⟩ | ⟨a,len,cap,m,n,D,Pl,rfl,hb,hl,hm,hmm,rfl,hel⟩
 . exact ⟨none,0,0,rfl,b_ _,by simp,.inl rfl⟩
 have hlm:len<=m:=by rw [hmm];split <;> omega
 refine ⟨some a,len,cap,rfl,hl,?_,?_⟩
 .
  have:=hs.len ht;simp only [Qs,List.length_range] at this;exact Jh (P_ _ (by omega)) this
 by_cases h0:len=0
 . exact .inl h0
 right
 have hcell:∀ i,i < len->∃ cs',cs'.length=size/\(∀ j,j < size->w.cell? ((a.add (i*size)).add j)=cs'[j]?)/\DataW.trod enc Tryz.prog w base spare held n e cs'=some (D i,Pl i):=fun i hi => by
  exact zGk
 have h00:∃ u,w.cell? a=some u:=by
  exact zFc
 obtain ⟨u,hu⟩:=h00;have hsp:a.spot=none:=by
  exact zGu
 obtain ⟨b,o,sp⟩:=a;simp only at hsp;subst hsp;refine ⟨b,o,rfl,World.block_lt_of_cell? _ _ hu,n,D,Pl,fun i hi => ?_⟩;obtain ⟨cs',h1,h2,h3⟩:=hcell i hi;refine ⟨cs',h1,fun j v hv => ?_,h3,hs.elem ht (Pe.2 ⟨i,by simpa using hi,rfl⟩)⟩;exact zEz
end
theorem VN {α:Type} {f:α->List Value} {size:Nat} (hf:∀ a,(f a).length=size) (xs:List α):(xs.flatMap f).length=xs.length*size:=by
 induction xs with
 | nil => simp
 | cons x r ih => rw [B_,h_,hf,ih,z_,Nat.succ_mul,Nat.add_comm]
theorem flat_get {α:Type} {f:α->List Value} {size:Nat} (hf:∀ a,(f a).length=size) (xs:List α):∀ (k j:Nat) (h:k < xs.length),j < size->(xs.flatMap f)[k*size+j]?=(f xs[k])[j]?:=by
 induction xs with
 | nil => intro k j h;simp at h
 | cons x r ih =>
  intro k j h hj;rw [B_];cases k with
  | zero => rw [List.getElem?_append_left (by rw [hf];omega)];simp
  | succ k =>
   rw [List.getElem?_append_right (by rw [hf,Nat.succ_mul];omega),hf];have e2:(k+1)*size+j - size=k*size+j:=by rw [Nat.succ_mul];omega
   rw [e2,ih k j (by simpa using h) hj];simp
theorem ad9 {α:Type} {f:α->List Value} {size:Nat} (hf:∀ a,(f a).length=size) (hpos:0 < size) (xs:List α) (j:Nat) (u:Value) (h:(xs.flatMap f)[j]?=some u):∃ hk:j / size < xs.length,(f (xs[j / size]))[j % size]?=some u:=by
 have hl:=(C_.1 h).1;rw [VN hf] at hl;have hk:j / size < xs.length:=Nat.div_lt_of_lt_mul (by rw [QH];exact hl);refine ⟨hk,?_⟩;rw [<- flat_get hf xs (j / size) (j % size) hk (Qo _ hpos)];have:j / size*size+j % size=j:=by rw [QH];exact Nat.div_add_mod j size
 rw [this,h]
theorem open_list {H:Type} {enc:TypeId × Value->H} {w:World} {base:Nat} {spare:Nat->Bool} {held:Bool} {α:Type} {good:α->Prop} {f:α->List Value}
  {t e:TypeId} {size fuel:Nat} {cs:List Value} {x:DataW H × List MemPlace} (ht:Tryz.prog.underlying t=some (.slice e)) (hC:Tryz.prog.cellsOf e=size) (hpos:0 < size) (hf:∀ a,(f a).length=size)
  (h:DataW.trod enc Tryz.prog w base spare held fuel t cs=some x) (hs:Sz t x.1)
  (hel:∀ (N:Nat) (cs':List Value) (D:DataW H) (Q:List MemPlace),cs'.length=size->DataW.trod enc Tryz.prog w base spare held N e cs'=some (D,Q)->Sz e D->∃ a,cs'=f a/\good a) :
  ∃ (v:Value) (xs:List α),cs = [v]/\xs.length*Tryz.prog.bytesOf e<=140737488351232/\(∀ a ∈ xs,good a)/\Rd w w.heap.size size v xs.length (xs.flatMap f):=by
 obtain ⟨A,len,cap,rfl,hl,hb,hrow⟩:=abU ht hC hpos h hs;rcases hrow with rfl | ⟨b,o,rfl,hlt,N,D,Pl,hi⟩
 . exact ⟨_,[],rfl,by simp,by simp,by simp,A,cap,rfl,hl,.inl rfl⟩
 have hex:∀ i,i < len->∃ a,good a/\∀ j u,(f a)[j]?=some u->w.cell? ⟨b,o+i*size+j,none⟩=some u:=fun i h0 => by
  obtain ⟨cs',h1,h2,h3,h4⟩:=hi i h0;obtain ⟨a,rfl,hg⟩:=hel N cs' (D i) (Pl i) h1 h3 h4;exact ⟨a,hg,h2⟩
 have hall:∀ n,n<=len->∃ xs:List α,xs.length=n/\(∀ a ∈ xs,good a)/\∀ i (h:i < xs.length),∀ j u,(f xs[i])[j]?=some u->w.cell? ⟨b,o+i*size+j,none⟩=some u:=by
  intro n
  induction n with
  | zero => intro _;exact ⟨[],rfl,by simp,fun i h => by simp at h⟩
  | succ n ih =>
   intro hn;obtain ⟨xs,h1,h2,h3⟩:=ih (by omega);obtain ⟨a,hg,ha⟩:=hex n (by omega);refine ⟨xs ++ [a],by simp [h1],fun y hy => ?_,fun i hi j u hu => ?_⟩
   .
    rcases Dp.1 hy with hy | hy
    . exact h2 y hy
    rw [Qp.1 hy];exact hg
   rw [h_,U_] at hi;rcases QC i xs.length with hlt | hge
   . rw [V6 hlt] at hu;exact h3 i hlt j u hu
   obtain rfl:i=xs.length:=by omega
   rw [Vt (b_ _)] at hu;simp only [Nat.sub_self,QA] at hu;rw [h1];exact ha j u hu
 obtain ⟨xs,h1,h2,h3⟩:=hall len (b_ _);subst h1;refine ⟨_,xs,rfl,hb,h2,VN hf xs,_,cap,rfl,hl,?_⟩;refine .inr ⟨b,o,rfl,hlt,fun j u hu => ?_⟩;obtain ⟨hk,hu2⟩:=ad9 hf hpos xs j u hu;have:=h3 _ hk _ _ hu2;have e:o+j / size*size+j % size=o+j:=by
  have:=Nat.div_add_mod j size;rw [QH] at this;omega
 rw [e] at this;exact this
theorem grown_below {W w':World} {base:Nat} {e:TypeId} {size n:Nat} {v:Value} {xs:List Value} {o:Obj} (hown:W.ownsRow base e size v n xs) (hb:base<=W.heap.size) (h:(W.alloc o).grownBy w' v.ownBlock):Below base W w' :=
 ((g_ base W).alloc hb o).grown h (by simp;omega) (fun k hk => (hown.lt k hk).1)
theorem KF {w0 w1:World} {b0 b1 s0 s1 n0 n1:Nat} {e0 e1:TypeId} {v0 v1:Value} {x0 x1:List Value} (h0:w0.ownsRow b0 e0 s0 v0 n0 x0) (h1:w1.ownsRow b1 e1 s1 v1 n1 x1) (hb:w0.heap.size<=b1):v1.ownBlock=none\/v1.ownBlock≠v0.ownBlock:=by
 cases h:v1.ownBlock with
 | none => exact .inl rfl
 | some k =>
  right
  intro he;have h2:=(h1.lt k h).1;have h3:=(h0.lt k he.symm).2;omega
theorem TV {W w':World} {base:Nat} {e:TypeId} {size n:Nat} {v:Value} {xs:List Value} {o:Obj} {row:Option Nat} (hown:W.ownsRow base e size v n xs) (h:(W.alloc o).grownBy w' row) (hne:v.ownBlock=none\/v.ownBlock≠row):w'.ownsRow base e size v n xs :=
 (hown.alloc o).kept h hne
abbrev RT (w:World) (v:Value) (e:Ending) (w':World):Prop:=e = .returned v/\Below w.heap.size w w'
theorem hiQ {p:Prop} (h:p):Hid p:=Lib.hid h
