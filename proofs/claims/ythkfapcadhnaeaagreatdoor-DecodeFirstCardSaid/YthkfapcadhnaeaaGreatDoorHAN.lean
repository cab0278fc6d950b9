/- What sheaveref03.Get computes: the same as varint.Get. The parts of a payload by the reference: cut, Arm, Items, Fields. failed, seen, to, number, field of the reference; what its Payload says. No condition. -/
import Derived.Test.YthkfapcadhnaeaaGreatDoorHAD
import Derived.Test.YthkfapcadhnaeaaGreatDoorHAI
import Derived.Test.YthkfapcadhnaeaaGreatDoorDecQ
import Derived.Test.YthkfapcadhnaeaaGreatDoorDecO
import Derived.Laws.AppendOwnNone
set_option maxHeartbeats 1000000
namespace Go.Proofs.YthkfapcadhnaeaaGreatDoor
open Go.ChangeShapes Go.WideShapes Go.ChangeAt Go.RowKit
def D8 (k:Nat):Nat:=128 ^ k
theorem abX (k:Nat) (hk:k≤8):IntKind.u64.wrap ((D8 k:Int)*128)=(D8 (k+1):Int):=by
 rw [IntKind.wrap_u64]
 have:128 ^ (k+1)≤128 ^ 9:=Nat.pow_le_pow_right (by omega) (by omega)
 have e:(128:Nat) ^ 9 < 18446744073709551616:=by decide
 have e2:D8 (k+1)=D8 k*128:=by unfold D8;rw [Nat.pow_succ]
 have:D8 (k+1) < 18446744073709551616:=by unfold D8;omega
 omega
theorem abY (n x k:Nat) (hn:n < 128 ^ k) (hx:x < 128) (hk:k≤8∨(k=9∧x≤1)) :
  IntKind.u64.wrap ((n:Int)+IntKind.u64.wrap ((x:Int)*(D8 k:Int)))=((n+x*128 ^ k:Nat):Int):=by
 have h:=(H9 n x k hn hx hk).2.2
 rw [IntKind.wrap_u64,IntKind.wrap_u64,← Int.natCast_mul]
 have e:x*D8 k=x*128 ^ k:=rfl
 rw [e]
 omega
set_option maxRecDepth 100000 in
theorem Nv (l:List UInt8) (w:World) (hlen:l.length≤9223372036854775807) :
  Calls Tryz.prog 170 #[.string ⟨l.toArray⟩] w fun e w' => e = .returned (.tuple #[.int .u64 (jV 0 0 l).1,.int .i64 (jV 0 0 l).2.1,.int .i64 (jV 0 0 l).2.2])∧w=w':=by
 go_enter Tryz.func170,Tryz.ntmps170
 go_wp2
 go_loop [5,6,7] (fun a u i => ∃ k n:Nat,k≤9∧k≤l.length∧a = .int .u64 n∧u = .int .u64 (D8 k)∧i = .int .i64 k∧jV 0 0 l=jV k n (l.drop k)∧Hid (n < 128 ^ k)) (fun _ _ i => 10 - (intOf i).toNat)
 case atStart => exact ⟨0,0,by omega,by omega,rfl,rfl,rfl,rfl,by show _ < _;omega⟩
 case round =>
  obtain ⟨k,n,hk,hk2,rfl,rfl,rfl,hp,hm⟩:=hrel
  have Hp:=Lib.hid hp
  clear hp
  by_cases hlt:k < l.length
  ·
   obtain ⟨b,r,hd,hb,hr⟩:=byte_at l k hlt
   have Hd:=Lib.hid hd
   have Hr:=Lib.hid hr
   clear hd hr
   have hbl:b.toNat < 256:=b.toNat_lt
   have hne:((k:Int) == l.length)=false:=beq_eq_false_iff_ne.2 (by omega)
   by_cases h9:9≤k∧1 < b.toNat
   ·
    obtain ⟨h9,h91⟩:=h9
    go_wp2
    go_ret3
    refine ⟨?_,rfl⟩
    rw [Hp.out,Hd.out,CW k n b r (by omega) (by omega)]
    rfl
   have hx:b.toNat % 128 < 128:=Nat.mod_lt _ (by omega)
   have hg:=H9 n (b.toNat % 128) k hm.out hx (by omega)
   obtain ⟨m,hmv,Hm⟩ : ∃ m:Nat,IntKind.u64.wrap ((n:Int)+IntKind.u64.wrap ((b.toNat:Int) % 128*(D8 k:Int)))=(m:Int)∧Hid (m=n+b.toNat % 128*128 ^ k) :=
    ⟨_,abY n (b.toNat % 128) k hm.out hx (by omega),rfl⟩
   have Hg:=Lib.hid hg
   clear hg hx
   go_wp2
   all_goals first
    | (go_ret3;refine ⟨?_,rfl⟩;rw [Hp.out,Hd.out,AB k n b r (by omega) (by omega) (by omega)];rfl)
    | (
     go_ret3
     refine ⟨?_,rfl⟩
     rw [Hp.out,Hd.out,EK k n b r (by omega) (by omega) (by omega)]
     refine VP (a':=((n+b.toNat*128 ^ k:Nat):Int)) (q:=k+1) _ _ ?_ ?_
     ·
      have e:=Hm.out
      rw [Nat.mod_eq_of_lt (by omega)] at e
      exact congrArg Int.ofNat e
     first | (with_reducible rfl) | omega)
    | (
     go_round
     case rel =>
      exact ⟨k+1,m,by omega,by omega,rfl,by rw [abX k (by omega)],by go_num,by rw [Hp.out,Hd.out,Hr.out,EJ k n b r (by omega) (by omega),Hm.out],by have:=Hg.out.2.1;have e:=Hm.out;show m < _;omega⟩
     case measure => simp [intOf];omega)
  have hne:((k:Int) == l.length)=true:=beq_iff_eq.2 (by omega)
  go_wp2
  all_goals go_ret3
  all_goals refine ⟨?_,rfl⟩
  all_goals rw [Hp.out,List.drop_of_length_le (by omega)]
  all_goals rfl
end Go.Proofs.YthkfapcadhnaeaaGreatDoor
namespace Go.Proofs.YthkfapcadhnaeaaGreatDoor
open Go.ChangeShapes Go.WideShapes Go.ChangeAt Go.RowKit
theorem V8 (l:List UInt8) (hlen:l.length≤1000000) (w:World) :
  Calls Tryz.prog 171 #[.string ⟨l.toArray⟩] w fun e w' => (match uF l with
   | some (p,r) => e = .returned (.tuple #[.string ⟨p.toArray⟩,.string ⟨r.toArray⟩,.bool true])
   | none => e = .returned (.tuple #[.string ByteArray.empty,.string ByteArray.empty,.bool false]))∧Below w.heap.size w w':=by
 have HG:=Lib.hid (fun W => Nv l W (by omega))
 obtain ⟨q,hq⟩ : ∃ q,uF l=q:=⟨_,rfl⟩
 rw [hq]
 unfold uF at hq
 cases hn:qW l with
 | none =>
  rw [hn] at hq
  simp only at hq;subst hq
  have h0:=CX hn
  generalize jV 0 0 l=g at *
  obtain ⟨n,k,e⟩:=g
  have he2:((e:Int) != 0)=true:=by rw [bne_iff_ne];simp only at h0;omega
  clear hn h0
  go_enter Tryz.func171,Tryz.ntmps171
  go_wp2_with fail
  refine (HG.out w).mono ?_
  rintro e w1 ⟨rfl,rfl⟩
  go_wp2_with fail
  go_ret3
  exact ⟨rfl,Below.refl _ _⟩
 | some g =>
  obtain ⟨n,r⟩:=g
  rw [hn] at hq
  obtain ⟨k,h1,h2,rfl,h4,h5⟩:=sG hn
  rw [h5] at HG
  unfold yD at h4
  have hrl:(l.drop k).length=l.length - k:=List.length_drop ..
  simp only [hrl] at hq
  have hw0:IntKind.i64.wrap ((l.length:Int) - k)=((l.length - k:Nat):Int):=by rw [IntKind.wrap_i64];omega
  have hw1:wrap64 ((l.length:Int) - k)=((l.length - k:Nat):Int):=by unfold wrap64;omega
  have hw2:IntKind.u64.wrap ((l.length - k:Nat):Int)=((l.length - k:Nat):Int):=by rw [IntKind.wrap_u64];omega
  clear hn h5
  by_cases h3:n≤l.length - k
  ·
   rw [if_pos h3] at hq;subst hq
   have hle:¬ (((l.length - k:Nat):Int) < n):=by omega
   have hc1:({ data:=l.toArray } : ByteArray).extract k (k+n) = { data:=((l.drop k).take n).toArray }:=by rw [Qc,List.drop_take,Nat.add_sub_cancel_left]
   have hc2:({ data:=l.toArray } : ByteArray).extract (k+n) l.length = { data:=((l.drop k).drop n).toArray }:=by rw [List.drop_drop];exact xK _ _ _ rfl
   have hn1:IntKind.i64.wrap (n:Int)=n:=by rw [IntKind.wrap_i64];omega
   have hn2:IntKind.i64.wrap ((k:Int)+n)=(k:Int)+n:=by rw [IntKind.wrap_i64];omega
   have hn3:((k:Int)+n).toNat=k+n:=by omega
   have hn4:0≤(k:Int)+n:=by omega
   have hn5:(k:Int)≤(k:Int)+n:=by omega
   have hn6:(k:Int)+n≤l.length:=by omega
   go_enter Tryz.func171,Tryz.ntmps171
   go_wp2_with fail
   refine (HG.out w).mono ?_
   rintro e w1 ⟨rfl,rfl⟩
   go_wp2_with fail
   go_quiet (fail)
   go_wp2_with fail
   go_ret3
   exact ⟨by simp only [List.drop_drop];rfl,below_drewN (Below.refl _ _) _⟩
  rw [if_neg h3] at hq;subst hq
  have hle:(((l.length - k:Nat):Int) < n):=by omega
  go_enter Tryz.func171,Tryz.ntmps171
  go_wp2_with fail
  refine (HG.out w).mono ?_
  rintro e w1 ⟨rfl,rfl⟩
  go_wp2_with fail
  go_ret3
  exact ⟨rfl,Below.refl _ _⟩
theorem adZ (l:List UInt8) (hlen:l.length≤1000000) (w:World) :
  Calls Tryz.prog 139 #[.string ⟨l.toArray⟩] w fun e w' => (match DT l with
   | some (n,r) => e = .returned (.tuple #[.int .i64 n,.string ⟨r.toArray⟩,.int .i64 0])
   | none => e = .returned (.tuple #[.int .i64 0,.string ByteArray.empty,.int .i64 12]))∧Below w.heap.size w w':=by
 have HG:=Lib.hid (fun W => Nv l W (by omega))
 obtain ⟨q,hq⟩ : ∃ q,DT l=q:=⟨_,rfl⟩
 rw [hq]
 unfold DT at hq
 cases hn:qW l with
 | none =>
  rw [hn] at hq
  simp only at hq;subst hq
  have h0:=CX hn
  generalize jV 0 0 l=g at *
  obtain ⟨n,k,e⟩:=g
  have he2:((e:Int) != 0)=true:=by rw [bne_iff_ne];simp only at h0;omega
  clear hn h0
  go_enter Tryz.func139,Tryz.ntmps139
  go_wp2_with fail
  refine (HG.out w).mono ?_
  rintro e w1 ⟨rfl,rfl⟩
  go_wp2_with fail
  go_ret3
  exact ⟨rfl,Below.refl _ _⟩
 | some g =>
  obtain ⟨n,r⟩:=g
  rw [hn] at hq
  obtain ⟨k,h1,h2,rfl,h4,h5⟩:=sG hn
  rw [h5] at HG
  simp only at hq
  clear hn h5
  by_cases h3:n < 1∨1000 < n
  ·
   rw [if_pos h3] at hq;subst hq
   by_cases h6:(n:Int) < 1
   ·
    go_enter Tryz.func139,Tryz.ntmps139
    go_wp2_with fail
    refine (HG.out w).mono ?_
    rintro e w1 ⟨rfl,rfl⟩
    go_wp2_with fail
    go_ret3
    exact ⟨rfl,Below.refl _ _⟩
   have h7:(1000:Int) < n:=by omega
   go_enter Tryz.func139,Tryz.ntmps139
   go_wp2_with fail
   refine (HG.out w).mono ?_
   rintro e w1 ⟨rfl,rfl⟩
   go_wp2_with fail
   go_ret3
   exact ⟨rfl,Below.refl _ _⟩
  rw [if_neg h3] at hq;subst hq
  have h6:¬ (n:Int) < 1:=by omega
  have h7:¬ (1000:Int) < n:=by omega
  have hw:IntKind.i64.wrap (n:Int)=n:=by rw [IntKind.wrap_i64];omega
  have hc:({ data:=l.toArray } : ByteArray).extract k l.length = { data:=(l.drop k).toArray }:=xK _ _ _ rfl
  go_enter Tryz.func139,Tryz.ntmps139
  go_wp2_with fail
  refine (HG.out w).mono ?_
  rintro e w1 ⟨rfl,rfl⟩
  go_wp2_with fail
  go_quiet (fail)
  go_wp2_with fail
  go_ret3
  exact ⟨rfl,below_drewN (Below.refl _ _) _⟩
set_option maxRecDepth 100000 in
theorem OQ (L:List UInt8) (hlen:L.length≤1000000) (w:World) :
  Calls Tryz.prog 140 #[.string ⟨L.toArray⟩] w (Q5 w L.length (sV L)):=by
 obtain ⟨I,hI⟩ : ∃ I,sV L=I:=⟨_,rfl⟩
 rw [hI]
 go_enter Tryz.func140,Tryz.ntmps140
 go_wp2
 go_loopw [0,4] (fun s v wr => ∃ f l acc,l.length≤f∧l.length+acc.length≤L.length∧s = .string ⟨l.toArray⟩∧I=wU f l acc∧wr.ownsRow w.heap.size 9 1 v acc.length (acc.map SB)∧Below w.heap.size w wr)
  (fun s _ _ => yH s)
 case atStart => exact ⟨L.length,L,[],by omega,by simp,rfl,hI.symm,World.ownsRow_nil _ _ _ _,Below.refl _ _⟩
 case round =>
  obtain ⟨f,l,acc,hf,hla,rfl,hp,hown,hb⟩:=hrel
  have Hp:=Lib.hid hp
  clear hp
  rcases l with _ | ⟨b,r⟩
  ·
   rw [OI] at Hp
   go_wp2
   go_ret2
   rw [Hp.out]
   exact ⟨u4,rfl,by simpa using hla,hown,hb⟩
  obtain ⟨f,rfl⟩ : ∃ g,f=g+1:=⟨f - 1,by simp only [List.length_cons] at hf;omega⟩
  rw [wU,if_neg (by simp)] at Hp
  have hpl:=hla
  have hpart:=V8 (b :: r) (by omega) wr
  have hsz:=@vP (b :: r)
  generalize uF (b :: r)=g at *
  cases g with
  | none =>
   simp only at Hp
   have sQ:=Lib.hid hpart
   clear hpart hsz
   go_wp2_with (go_at_call 171;refine sQ.out.mono ?_;rintro e w1 ⟨rfl,hb1⟩)
   go_ret2
   rw [Hp.out]
   exact ⟨rfl,hb.trans (hb1.mono hb.size)⟩
  | some g =>
   obtain ⟨p,q⟩:=g
   have hsz:=hsz rfl
   simp only at Hp
   have sQ:=Lib.hid hpart
   clear hpart
   go_wp2_with first
    | (go_at_call 171;refine sQ.out.mono ?_;rintro e w1 ⟨rfl,hb1⟩)
    | (at_builtin;refine oD rfl _ _ _ rfl w.heap.size 9 _ 1 16 Tryz.underlying63 Qo rfl (by decide) _ acc.length (acc.map SB) rfl (own_below hown hb1) [_] _ 1 rfl rfl (by simp [Value.oneCell']) (by omega) (by omega) (Nat.le_trans hb.size hb1.size) ?_;intro v' w2 hown2 hb2)
   go_roundw
   case rel =>
    refine ⟨f,q,acc ++ [p],by omega,by simp only [List.length_append,List.length_cons,List.length_nil];omega,rfl,Hp.out,?_,hb.trans ((hb1.mono hb.size).trans hb2)⟩
    rw [List.map_append,List.length_append]
    exact hown2
   case measure =>
    simp only [yH,ByteArray.size,List.size_toArray];omega
set_option maxRecDepth 100000 in
theorem WX (L:List UInt8) (hlen:L.length≤1000000) (w:World) :
  Calls Tryz.prog 141 #[.string ⟨L.toArray⟩] w (OJ w L.length (vS L)):=by
 obtain ⟨I,hI⟩ : ∃ I,vS L=I:=⟨_,rfl⟩
 rw [hI]
 go_enter Tryz.func141,Tryz.ntmps141
 go_wp2
 go_loopw [0,4,5] (fun s v u wr => ∃ f l last acc,u = .int .i64 ((last:Nat):Int)∧last≤1000∧l.length≤f∧l.length+acc.length≤L.length∧s = .string ⟨l.toArray⟩∧I=sZ f l last acc∧wr.ownsRow w.heap.size 190 3 v acc.length (lX acc)∧Below w.heap.size w wr)
  (fun s _ _ _ => yH s)
 case atStart => exact ⟨L.length,L,0,[],rfl,by omega,by omega,by simp,rfl,hI.symm,World.ownsRow_nil _ _ _ _,Below.refl _ _⟩
 case round =>
  obtain ⟨f,l,last,acc,rfl,hlast,hf,hla,rfl,hp,hown,hb⟩:=hrel
  have Hp:=Lib.hid hp
  clear hp
  rcases l with _ | ⟨b,r⟩
  ·
   rw [Ld] at Hp
   go_wp2
   go_ret2
   rw [Hp.out]
   exact ⟨u4,rfl,by simpa using hla,hown,hb⟩
  obtain ⟨f,rfl⟩ : ∃ g,f=g+1:=⟨f - 1,by simp only [List.length_cons] at hf;omega⟩
  rw [sZ,if_neg (by simp)] at Hp
  have hnext:=fun W => Nv (b :: r) W (by omega)
  cases hn:qW (b :: r) with
  | none =>
   rw [hn] at Hp
   simp only at Hp
   have h0:=CX hn
   generalize jV 0 0 (b :: r)=g at *
   obtain ⟨n,k,e⟩:=g
   have he2:((e:Int) != 0)=true:=by rw [bne_iff_ne];simp only at h0;omega
   have vZ:=Lib.hid hnext
   clear hnext hn h0
   go_wp2_with (go_at_call 170;refine (vZ.out _).mono ?_;rintro e w1 ⟨rfl,rfl⟩)
   go_ret2
   rw [Hp.out]
   exact ⟨rfl,hb⟩
  | some g =>
   obtain ⟨h,q⟩:=g
   rw [hn] at Hp
   obtain ⟨k,hk1,hk2,rfl,hu,h5⟩:=sG hn
   rw [h5] at hnext
   have vZ:=Lib.hid hnext
   clear hnext hn h5
   unfold yD at hu
   have hw0:IntKind.u64.wrap ((h:Int) / 2)=(h:Int) / 2:=by rw [IntKind.wrap_u64];omega
   have hpl:(b :: r).length≤L.length:=by omega
   by_cases hc:h / 2≤last∨1000 < h / 2
   ·
    simp only [if_pos hc] at Hp
    by_cases h0:(2001:Int) < h
    ·
     go_wp2_with (go_at_call 170;refine (vZ.out _).mono ?_;rintro e w1 ⟨rfl,rfl⟩)
     go_ret2
     rw [Hp.out]
     exact ⟨rfl,hb⟩
    have h3:(h:Int) / 2≤last:=by omega
    have hw1:IntKind.i64.wrap ((h:Int) / 2)=(h:Int) / 2:=by rw [IntKind.wrap_i64];omega
    go_wp2_with (go_at_call 170;refine (vZ.out _).mono ?_;rintro e w1 ⟨rfl,rfl⟩)
    go_ret2
    rw [Hp.out]
    exact ⟨rfl,hb⟩
   simp only [if_neg hc] at Hp
   have h0:¬ (2001:Int) < h:=by omega
   have h3:¬ (h:Int) / 2≤last:=by omega
   have hw1:IntKind.i64.wrap ((h:Int) / 2)=(h:Int) / 2:=by rw [IntKind.wrap_i64];omega
   have hpe:(b :: r).length=r.length+1:=rfl
   have hcut:({ data:=(b :: r).toArray } : ByteArray).extract k (r.length+1) = { data:=((b :: r).drop k).toArray }:=xK _ _ _ rfl
   have hkl:(k:Int)≤(r.length:Int)+1:=by omega
   have hdl:((b :: r).drop k).length=(b :: r).length - k:=List.length_drop ..
   have hpart:=fun W => V8 ((b :: r).drop k) (by omega) W
   have hqz:=@vP ((b :: r).drop k)
   generalize (b :: r).drop k=qd at *
   generalize uF qd=g at *
   cases g with
   | none =>
    simp only at Hp
    have sQ:=Lib.hid hpart
    clear hpart hqz
    go_wp2_with first
     | (go_at_call 170;refine (vZ.out _).mono ?_;rintro e w1 ⟨rfl,rfl⟩)
     | (go_at_call 171;refine (sQ.out _).mono ?_;rintro e w2 ⟨rfl,hb2⟩)
    go_ret2
    rw [Hp.out]
    exact ⟨rfl,hb.trans (hb2.mono hb.size)⟩
   | some g =>
    obtain ⟨p,q'⟩:=g
    have hqz:=hqz rfl
    simp only at Hp
    have sQ:=Lib.hid hpart
    clear hpart
    go_wp2_with first
     | (go_at_call 170;refine (vZ.out _).mono ?_;rintro e w1 ⟨rfl,rfl⟩)
     | (go_at_call 171;refine (sQ.out _).mono ?_;rintro e w2 ⟨rfl,hb2⟩;have jl:=hb.trans (hb2.mono hb.size);have hown1:=own_below hown hb2;have adN:=jl.size)
     | (at_builtin;refine oD rfl _ _ _ rfl w.heap.size 190 _ 3 32 Tryz.underlying185 Xx rfl (by decide) _ acc.length (lX acc) rfl hown1 [_,_,_] _ 1 rfl rfl (by simp [Value.oneCell']) (by omega) (by omega) adN ?_;intro v' w3 hown2 hb3)
    go_roundw
    case rel =>
     refine ⟨f,q',h / 2,acc ++ [⟨h / 2,decide (h % 2=1),p⟩],by simp,by omega,by omega,by simp only [List.length_append,List.length_cons,List.length_nil] at *;omega,rfl,Hp.out,?_,jl.trans hb3⟩
     rw [Q7,List.length_append]
     have e:decide (h % 2=1)=((h:Int) % 2 == 1):=by
      rw [Bool.eq_iff_iff,decide_eq_true_iff,beq_iff_eq];omega
     simp only [Gm,e]
     exact hown2
    case measure =>
     simp only [yH,ByteArray.size,List.size_toArray];omega
end Go.Proofs.YthkfapcadhnaeaaGreatDoor
namespace Go.Proofs.YthkfapcadhnaeaaGreatDoor
open Go.ChangeShapes Go.WideShapes Go.ChangeAt Go.RowKit
theorem Bd {ops:Array Oper} {rest:List Oper} {o:Oper} {a:Act} {w:World} {Q:Exit→Act→World→Prop} (hgd:o.guard=none) (s x:Operand)
  (ho:o.op = .call { callee:=.builtin .append,args:=#[s,x],argTypes:=#[36,36] })
  (L:Nat) (v:Value) (n:Nat) (xs:List Value) (hs:a.eval s=v) (hown:w.ownsRow L 3 1 v n xs)
  (B:Nat) (vx:Value) (m:Nat) (ys:List Value) (hx:a.eval x=vx) (hsrc:w.ownsRow B 3 1 vx m ys) (h1:∀ u ∈ ys,u.oneCell'=true)
  (hsm:n+m≤1000000) (hbase:L≤w.heap.size)
  (h:∀ v' w',w'.ownsRow L 3 1 v' (n+m) (xs ++ ys)→Below L w w'→wpList Tryz.prog ops Q rest (a.put o.dst v') w'):wpList Tryz.prog ops Q (o :: rest) a w:=by
 obtain ⟨i0,hi,hz0,hz1,hz2⟩:=info_parts jP
 rcases hsrc.2 with ⟨rfl,rfl⟩ | ⟨g,cap,cur,rfl,_,_,hnc,_⟩
 ·
  have hy:ys = []:=by simpa using hsrc.1
  subst hy
  exact wpList_append_own_none hgd s x _ ho L 3 i0 1 Tryz.underlying36 hi v n xs hs hown hx (h v w (by simpa using hown) (Below.refl _ _))
 refine wpList_append_own w hgd s x _ ho L 3 i0 _ 1 8 Tryz.underlying36 hi hz0 hz1 hz2 rfl (by decide) v n xs hs hown ⟨g,0,none⟩ m cap ys hx hsrc.1 (fun j u hu => hsrc.cells (g:=g) rfl j u hu) h1 (by simp only [maxLen];omega) (by omega) hbase ?_
 intro v' w' h2 h3 _
 exact h v' w' h2 ((Below.refl L w).grown h3 hbase (fun k hk => (hown.lt k hk).1))
theorem Rk (w:World) (T:TypeId) (size:Nat):(w.alloc (.cells #[] T)).ownsRow w.heap.size T size (.slice (some ⟨w.heap.size,0,none⟩) 0 0) 0 [] :=
 ⟨by simp,.inr ⟨w.heap.size,0,#[],rfl,Nat.le_refl _,heap_alloc_new w _,Nat.le_refl _,by simp [maxLen],by simp,by simp⟩⟩
theorem V9 (path:List Int):∀ u ∈ path.map iZ,u.oneCell'=true:=by
 intro u hu;obtain ⟨z,_,rfl⟩:=List.mem_map.1 hu;rfl
def oI (C:Nat) (w w':World) (b:Nat):Prop:=b < C∨(w.heap.size≤b∧b < w'.heap.size)
def fG (C:Nat) (w:World) (r:fO) (e:Ending) (w':World):Prop:=Below w.heap.size w w'∧match r with
 | .ok v => ∃ vk vi vr,e = .returned (.agg #[.int .i64 v.kind,.bool v.bool,.int .i64 v.num,.string ⟨v.str.toArray⟩,.int .i64 v.id,vk,vi,vr,.slice none 0 0,.int .i64 0,.bool true])∧jq w' (oI C w w') v vk vi vr
 | .error (p,n) => ∃ fp,e = .returned (.agg #[.int .i64 0,.bool false,.int .i64 0,.string ⟨#[]⟩,.int .i64 0,.slice none 0 0,.slice none 0 0,.slice none 0 0,fp,.int .i64 n,.bool false])∧w'.ownsRow w.heap.size 3 1 fp p.length (p.map iZ)
set_option maxRecDepth 100000 in
theorem gu (C:Nat) (path:List Int) (vp:Value) (n:Int) (w:World) (hl:path.length≤1000) (hp:w.ownsRow 0 3 1 vp path.length (path.map iZ)) :
  Calls Tryz.prog 70 #[vp,.int .i64 n] w (fG C w (.error (path,n))):=by
 have HP:=Lib.hid hp
 clear hp
 go_enter Tryz.func70,Tryz.ntmps70
 go_upto_region 1 with fail
 generalize dJ:w.alloc _=wd2
 have ⟨hb1,Z⟩:=bH dJ
 clear dJ
 have hw4:=hb1
 clear hb1
 have hP1:=own_below HP.out hw4
 have hE:=Rk wd2 3 1
 have hPE:=own_below hP1 (aB (w:=wd2) (o:=.cells #[] 3) rfl)
 have HPE:=Lib.hid hPE
 have HE:=Lib.hid hE
 have hz:=Z.out.here
 clear hP1 hE hPE
 go_wp2_with (first
  | (at_builtin;refine Bd rfl _ _ rfl wd2.heap.size _ 0 [] rfl HE.out 0 _ _ _ rfl HPE.out (V9 path) (by omega) (by simp) ?_;intro v' w2 hown2 hb2;rw [Nat.zero_add,List.nil_append] at hown2;obtain ⟨A,c,rfl⟩:=aF hown2;have Z2:Hid (Has w2 w.heap.size 91 #[.int .i64 0,.bool false,.int .i64 0,.string ⟨#[]⟩,.int .i64 0,.slice none 0 0,.slice none 0 0,.slice none 0 0,.slice none 0 0,.int .i64 0,.bool false]):=Lib.hid ((hb2.block _ hz).trans (Z.out.alloc _)))
  | (refine wpList_store_row rfl 91 _ _ rfl (w.heap.size) _ rfl rfl 91 _ Z2.out (by kernel_rfl) rfl (by simp [Value.oneCell']) ?_))
 have hbW:Below wd2.heap.size wd2 w2:=(aB rfl).trans hb2
 clear Z2
 replace Z:=b1 Z hbW
 replace hw4:=dT hw4 hbW
 have FP:=Lib.hid (Kept.own (aH hown2 (show w.heap.size+1≤_ from hz)))
 generalize oV:w2.setRow _ _=qM
 replace FP:=f1 FP (eR oV)
 replace Z:=aK Z oV
 replace hw4:=tr hw4 oV
 clear oV
 exact bodyPost_ret (v:=.agg #[.int .i64 0,.bool false,.int .i64 0,.string ⟨#[]⟩,.int .i64 0,.slice none 0 0,.slice none 0 0,.slice none 0 0,.slice A path.length c,.int .i64 n,.bool false]) (by simp [results,Tryz.results70,go_sem,Z.out.c11]) rfl (⟨hw4,_,rfl,aH FP.out.now (Nat.le_succ _)⟩)
def ah7 (w:World) (path:List Int) (s:Int) (e:Ending) (w':World):Prop:=Below w.heap.size w w'∧∃ v,e = .returned v∧w'.ownsRow w.heap.size 3 1 v (path ++ [s]).length ((path ++ [s]).map iZ)
set_option maxRecDepth 100000 in
theorem qA (path:List Int) (vp:Value) (s:Int) (w:World) (hl:path.length≤1000) (hp:w.ownsRow 0 3 1 vp path.length (path.map iZ)) :
  Calls Tryz.prog 101 #[vp,.int .i64 s] w (ah7 w path s):=by
 have hE:=Rk w 3 1
 have hPE:=own_below hp (aB (w:=w) (o:=.cells #[] 3) rfl)
 have HPE:=Lib.hid hPE
 have HE:=Lib.hid hE
 clear hE hPE hp
 go_enter Tryz.func101,Tryz.ntmps101
 go_wp2_with (at_builtin;first
  | (refine Bd rfl _ _ rfl w.heap.size _ 0 [] rfl HE.out 0 _ _ _ rfl HPE.out (V9 path) (by omega) (by simp) ?_;intro v1 w2 hown2 hb2;rw [Nat.zero_add,List.nil_append] at hown2)
  | (refine gW rfl _ _ _ rfl w.heap.size 3 _ 1 8 Tryz.underlying36 jP rfl (by decide) _ _ _ rfl hown2 [_] _ 1 _ rfl rfl rfl (by simp [Value.oneCell']) (by omega) (by omega) (by have:=hb2.size;simp at this;omega) ?_;intro g3 c3 w3 hown3 hg3 Gz hb3))
 go_ret
 refine ⟨((aB rfl).trans hb2).trans hb3,_,rfl,?_⟩
 rw [List.length_append,List.map_append]
 exact hown3
set_option maxRecDepth 100000 in
theorem OT (p:List UInt8) (w:World) (hlen:p.length≤1000000) :
  Calls Tryz.prog 99 #[.string ⟨p.toArray⟩] w fun e w' => e = .returned (.tuple #[.int .u64 (dI p).1,.bool (((dI p).2:Int) == 0)])∧w=w':=by
 have HB:=Lib.hid (fun W => VQ p W (by omega))
 generalize dI p=g at *
 obtain ⟨q,er⟩:=g
 go_enter Tryz.func99,Tryz.ntmps99
 go_wp2_with fail
 refine (HB.out w).mono ?_
 rintro e w1 ⟨rfl,rfl⟩
 go_wp2_with fail
 go_ret2
 exact ⟨rfl,rfl⟩
set_option maxRecDepth 100000 in
theorem ad1 (v:Val) (vk vi vr:Value) (S:Nat→Prop) (w:World) (hv:jq w S v vk vi vr) :
  Calls Tryz.prog 106 #[iC v vk vi vr] w fun e w' => e = .returned (.agg #[.int .i64 v.kind,.bool v.bool,.int .i64 v.num,.string ⟨v.str.toArray⟩,.int .i64 v.id,vk,vi,vr,.slice none 0 0,.int .i64 0,.bool true])∧Below w.heap.size w w':=by
 obtain ⟨A1,n1,A2,n2,A3,n3,rfl,rfl,rfl⟩ : ∃ A1 n1 A2 n2 A3 n3,vk = .slice A1 v.keys.length n1∧vi = .slice A2 v.items.length n2∧vr = .slice A3 v.rest.length n3:=by
  obtain ⟨_,⟨A1,n1,h1,_⟩,_⟩:=hv.keys
  obtain ⟨_,⟨A2,n2,h2,_⟩,_⟩:=hv.items
  obtain ⟨_,A3,n3,h3,_⟩:=hv.rest
  exact ⟨A1,n1,A2,n2,A3,n3,h1,h2,h3⟩
 clear hv
 go_enter Tryz.func106,Tryz.ntmps106
 go_upto_region 1 with fail
 generalize Bc:w.alloc _=uJ
 generalize jZ:uJ.alloc _=kE
 have ⟨hb7,B,Z⟩:=dN Bc jZ
 clear Bc jZ
 have jS:=hb7
 clear hb7
 obtain ⟨acZ,ac0,ac1,ac2,ac3,zJ,zK,I8⟩:=B.out.c8
 go_wp2_with (refine sR Z.out ?_)
 clear acZ ac0 ac1 ac2 ac3 zJ zK I8
 generalize jY:kE.setRow _ _=tN
 replace B:=f1 B (eR jY)
 replace Z:=aK Z jY
 replace jS:=tr jS jY
 clear jY
 exact bodyPost_ret (v:=.agg #[.int .i64 v.kind,.bool v.bool,.int .i64 v.num,.string ⟨v.str.toArray⟩,.int .i64 v.id,.slice A1 v.keys.length n1,.slice A2 v.items.length n2,.slice A3 v.rest.length n3,.slice none 0 0,.int .i64 0,.bool true]) (by simp [results,Tryz.results106,go_sem,Z.out.c11]) rfl (⟨rfl,jS⟩)
set_option maxRecDepth 100000 in
theorem ab1 (fs:List nN) (va:Value) (id:Int) (w:World) (hl:fs.length≤1000000) (hr:Rd w w.heap.size 3 va fs.length (lX fs)) :
  Calls Tryz.prog 142 #[va,.int .i64 id] w fun e w' => e = .returned (.int .i64 (Bv (fidx fs id)))∧w=w':=by
 obtain ⟨A,c,rfl,hc⟩:=hr.form
 have HR:=Lib.hid hr
 clear hr
 unfold fidx
 go_enter Tryz.func142,Tryz.ntmps142
 go_wp2
 go_loop [5] (fun i => ∃ k:Nat,i = .int .i64 k∧k≤fs.length∧mX (fs.map (fun f => (f.id:Int))) id 0=mX ((fs.drop k).map (fun f => (f.id:Int))) id k) (fun i => fs.length - (intOf i).toNat)
 case atStart => exact ⟨0,rfl,by omega,rfl⟩
 case round =>
  obtain ⟨k,rfl,hk,hix⟩:=hrel
  by_cases hlk:k < fs.length
  ·
   obtain ⟨b,o,rfl,hbb,hcell⟩:=HR.out.at_ (by have:=QA fs;omega)
   obtain ⟨c0,c1,c2⟩:=PU hcell k hlk
   rw [List.drop_eq_getElem_cons hlk,List.map_cons,uQ] at hix
   generalize fs[k]=m at *
   have hi1:(k:Int) < fs.length:=by omega
   clear hcell
   by_cases he:(m.id:Int)=id
   ·
    rw [if_pos he] at hix
    have jo:=Lib.hid hix
    have ht:((m.id:Int) == id)=true:=by simp [he]
    clear hix he
    go_wp2
    go_ret
    exact ⟨aV (by rw [jo.out];rfl),rfl⟩
   rw [if_neg he] at hix
   have jo:=Lib.hid hix
   have ht:((m.id:Int) == id)=false:=by simpa using he
   clear hix he
   go_wp2
   go_round
   case rel => exact ⟨k+1,by go_num,by omega,jo.out⟩
   case measure => simp [intOf];omega
  rw [List.drop_eq_nil_of_le (by omega)] at hix
  have jo:=Lib.hid hix
  clear hix
  go_wp2
  go_ret
  exact ⟨aV (by rw [jo.out];rfl),rfl⟩
end Go.Proofs.YthkfapcadhnaeaaGreatDoor
