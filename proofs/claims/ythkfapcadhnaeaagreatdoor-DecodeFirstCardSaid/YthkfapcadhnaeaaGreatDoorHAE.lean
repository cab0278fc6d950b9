/- FromBig: the number with big-endian bytes. Unzigzag. What IsName of both packages computes. A set of strings in a map that the call has made. What fits of the program computes, kind by kind. What fits of the program computes for records. What schema.ids computes: IDs ascend, names differ and are names. No condition. -/
import Derived.Test.YthkfapcadhnaeaaGreatDoorHAD
import Derived.Test.YthkfapcadhnaeaaGreatDoorHAB
import Derived.Test.YthkfapcadhnaeaaGreatDoorHAA
import Derived.Maps.OwnSet
import Derived.Maps.Views
import Derived.IntWalk
set_option maxHeartbeats 1600000
namespace Go.Proofs.YthkfapcadhnaeaaGreatDoor
open Go.ChangeShapes Go.WideShapes Go.ChangeAt Go.RowKit
def zl:List UInt8→Nat→Nat
 | [],n => n
 | b :: r,n => zl r (n*256+b.toNat)
def dI (l:List UInt8):Nat × Nat :=
 if l.head?=some 0 then (0,2) else if 8 < l.length then (0,7) else (zl l 0,0)
theorem Ql (n:Nat) (b:UInt8) (k:Nat) (h:n < 256 ^ k) (hk:k < 8):bits .or .u64 (IntKind.u64.wrap ((n:Int)*256)) (b.toNat:Int)=((n*256+b.toNat:Nat):Int)∧n*256+b.toNat < 256 ^ (k+1):=by
 have hb:=b.toNat_lt
 have h7:256 ^ k≤256 ^ 7:=Nat.pow_le_pow_right (by omega) (by omega)
 have e7:(256:Nat) ^ 7=72057594037927936:=by decide
 refine ⟨?_,by rw [Nat.pow_succ];omega⟩
 have e:IntKind.u64.wrap ((n:Int)*256)=((n*256:Nat):Int):=by rw [IntKind.wrap_u64];omega
 rw [e,u64_or_nat _ _ (by omega) (by omega)]
 congr 1
 have:=Nat.two_pow_add_eq_or_of_lt (show b.toNat < 2 ^ 8 from hb) n
 rw [Nat.mul_comm n,show (256:Nat)=2 ^ 8 from rfl,← this]
theorem adH (n:Nat) (b:UInt8) (k:Nat) (h:n < 256 ^ k) (hk:k < 8):IntKind.u64.wrap (IntKind.u64.wrap ((n:Int)*256)+(b.toNat:Int))=((n*256+b.toNat:Nat):Int):=by
 have hb:=b.toNat_lt
 have h7:256 ^ k≤256 ^ 7:=Nat.pow_le_pow_right (by omega) (by omega)
 have e7:(256:Nat) ^ 7=72057594037927936:=by decide
 rw [IntKind.wrap_u64,IntKind.wrap_u64];omega
theorem byte_zero (b:UInt8) (h:b.toNat=0):b=0:=UInt8.toNat_inj.1 (by simpa using h)
set_option maxRecDepth 100000 in
theorem La (l:List UInt8) (w:World) (hlen:l.length≤9223372036854775807) :
  Calls Tryz.prog 92 #[.string ⟨l.toArray⟩] w fun e w' => e = .returned (.tuple #[.int .u64 (dI l).1,.int .i64 (dI l).2])∧w=w':=by
 match l,hlen with
 | [],_ =>
  go_enter Tryz.func92,Tryz.ntmps92
  go_wp2
  go_rounds 1
  go_ret2
  exact ⟨rfl,rfl⟩
 | b :: r,hlen =>
  have hb:({ data:=(b :: r).toArray } : ByteArray)[0]'(by simp [ByteArray.size])=b:=rfl
  by_cases h0:b.toNat=0
  ·
   have H0:=Lib.hid h0
   have h0':((b.toNat:Int) == 0)=true:=beq_iff_eq.2 (by omega)
   clear h0
   go_enter Tryz.func92,Tryz.ntmps92
   go_wp2
   go_ret2
   refine ⟨?_,rfl⟩
   rw [dI,if_pos (by simp [byte_zero b H0.out])]
   rfl
  have h0':((b.toNat:Int) == 0)=false:=beq_eq_false_iff_ne.2 (by omega)
  have hf:¬ (b :: r).head?=some 0:=fun h => h0 (by simp at h;rw [h];rfl)
  have HF:=Lib.hid hf
  clear hf h0
  by_cases h8:8 < (r.length:Int)+1
  ·
   go_enter Tryz.func92,Tryz.ntmps92
   go_wp2
   go_ret2
   refine ⟨?_,rfl⟩
   rw [dI,if_neg HF.out,if_pos (by simp;omega)]
   rfl
  go_enter Tryz.func92,Tryz.ntmps92
  go_wp2
  clear hb h0'
  go_loop [4,18] (fun a i => ∃ k n:Nat,k≤r.length+1∧a = .int .u64 n∧i = .int .i64 k∧zl (b :: r) 0=zl ((b :: r).drop k) n∧Hid (n < 256 ^ k)) (fun _ i => r.length+1 - (intOf i).toNat)
  case atStart => exact ⟨0,0,by omega,rfl,rfl,rfl,by show _ < _;omega⟩
  case round =>
   obtain ⟨k,n,hk,rfl,rfl,hp,hm⟩:=hrel
   have Hp:=Lib.hid hp
   clear hp
   by_cases hlt:k < r.length+1
   ·
    obtain ⟨x,q,hd,hx,hq⟩:=byte_at (b :: r) k (by simpa using hlt)
    have Hd:=Lib.hid hd
    have Hq:=Lib.hid hq
    clear hd hq
    obtain ⟨m,hmv,Hm⟩ : ∃ m:Nat,bits .or .u64 (IntKind.u64.wrap ((n:Int)*256)) (x.toNat:Int)=(m:Int)∧Hid (m=n*256+x.toNat):=⟨_,(Ql n x k hm.out (by omega)).1,rfl⟩
    have hxl:x.toNat < 256:=x.toNat_lt
    go_wp2
    go_round
    case rel => exact ⟨k+1,m,by omega,rfl,by go_num,by rw [Hp.out,Hd.out,Hq.out,zl,Hm.out],by have:=(Ql n x k hm.out (by omega)).2;have e:=Hm.out;show m < _;omega⟩
    case measure => simp [intOf];omega
   go_wp2
   go_ret2
   refine ⟨?_,rfl⟩
   rw [dI,if_neg HF.out,if_neg (by simp;omega),Hp.out,List.drop_of_length_le (by simp;omega)]
   rfl
set_option maxRecDepth 100000 in
theorem VQ (l:List UInt8) (w:World) (hlen:l.length≤9223372036854775807) :
  Calls Tryz.prog 138 #[.string ⟨l.toArray⟩] w fun e w' => e = .returned (.tuple #[.int .u64 (dI l).1,.int .i64 (dI l).2])∧w=w':=by
 match l,hlen with
 | [],_ =>
  go_enter Tryz.func138,Tryz.ntmps138
  go_wp2
  go_rounds 1
  go_ret2
  exact ⟨rfl,rfl⟩
 | b :: r,hlen =>
  have hb:({ data:=(b :: r).toArray } : ByteArray)[0]'(by simp [ByteArray.size])=b:=rfl
  by_cases h0:b.toNat=0
  ·
   have H0:=Lib.hid h0
   have h0':((b.toNat:Int) == 0)=true:=beq_iff_eq.2 (by omega)
   clear h0
   go_enter Tryz.func138,Tryz.ntmps138
   go_wp2
   go_ret2
   refine ⟨?_,rfl⟩
   rw [dI,if_pos (by simp [byte_zero b H0.out])]
   rfl
  have h0':((b.toNat:Int) == 0)=false:=beq_eq_false_iff_ne.2 (by omega)
  have hf:¬ (b :: r).head?=some 0:=fun h => h0 (by simp at h;rw [h];rfl)
  have HF:=Lib.hid hf
  clear hf h0
  by_cases h8:8 < (r.length:Int)+1
  ·
   go_enter Tryz.func138,Tryz.ntmps138
   go_wp2
   go_ret2
   refine ⟨?_,rfl⟩
   rw [dI,if_neg HF.out,if_pos (by simp;omega)]
   rfl
  go_enter Tryz.func138,Tryz.ntmps138
  go_wp2
  clear hb h0'
  go_loop [4,5] (fun a i => ∃ k n:Nat,k≤r.length+1∧a = .int .u64 n∧i = .int .i64 k∧zl (b :: r) 0=zl ((b :: r).drop k) n∧Hid (n < 256 ^ k)) (fun _ i => r.length+1 - (intOf i).toNat)
  case atStart => exact ⟨0,0,by omega,rfl,rfl,rfl,by show _ < _;omega⟩
  case round =>
   obtain ⟨k,n,hk,rfl,rfl,hp,hm⟩:=hrel
   have Hp:=Lib.hid hp
   clear hp
   by_cases hlt:k < r.length+1
   ·
    obtain ⟨x,q,hd,hx,hq⟩:=byte_at (b :: r) k (by simpa using hlt)
    have Hd:=Lib.hid hd
    have Hq:=Lib.hid hq
    clear hd hq
    obtain ⟨m,hmv,Hm⟩ : ∃ m:Nat,IntKind.u64.wrap (IntKind.u64.wrap ((n:Int)*256)+(x.toNat:Int))=(m:Int)∧Hid (m=n*256+x.toNat):=⟨_,adH n x k hm.out (by omega),rfl⟩
    have hxl:x.toNat < 256:=x.toNat_lt
    go_wp2
    go_round
    case rel => exact ⟨k+1,m,by omega,rfl,by go_num,by rw [Hp.out,Hd.out,Hq.out,zl,Hm.out],by have:=(Ql n x k hm.out (by omega)).2;have e:=Hm.out;show m < _;omega⟩
    case measure => simp [intOf];omega
   go_wp2
   go_ret2
   refine ⟨?_,rfl⟩
   rw [dI,if_neg HF.out,if_neg (by simp;omega),Hp.out,List.drop_of_length_le (by simp;omega)]
   rfl
end Go.Proofs.YthkfapcadhnaeaaGreatDoor
namespace Go.Proofs.YthkfapcadhnaeaaGreatDoor
open Go.ChangeShapes Go.WideShapes Go.ChangeAt Go.RowKit
theorem and_one (n:Int) (h0:0≤n) (h1:n < 18446744073709551616):bits .and .u64 n 1=n % 2:=by
 have h:=bits_mask .u64 64 (by decide) (fun n h0 h1 => by rw [IntKind.wrap_u64];omega) 1 (by decide) n h0 (by omega)
 simpa using h
theorem agP (x:Nat) (hx:x < 9223372036854775808):bits .xor .i64 (x:Int) (-1) = -(x:Int) - 1:=by
 show IntKind.i64.wrap ((BitVec.ofInt 64 (x:Int) ^^^ BitVec.ofInt 64 (-1)).toNat:Int)=_
 have h1:(BitVec.ofInt 64 (-1)).toNat=2 ^ 64 - 1:=by decide
 have h2:(BitVec.ofInt 64 (x:Int)).toNat=x:=by
  rw [BitVec.ofInt_natCast,BitVec.toNat_ofNat];exact Nat.mod_eq_of_lt (by omega)
 rw [BitVec.toNat_xor,h1,h2,Nat.xor_comm,VF x (by omega),IntKind.wrap_i64]
 omega
theorem agQ (x:Nat) (hx:x < 9223372036854775808):bits .xor .i64 (x:Int) 0=(x:Int):=by
 show IntKind.i64.wrap ((BitVec.ofInt 64 (x:Int) ^^^ BitVec.ofInt 64 0).toNat:Int)=_
 have h1:(BitVec.ofInt 64 0).toNat=0:=by decide
 have h2:(BitVec.ofInt 64 (x:Int)).toNat=x:=by
  rw [BitVec.ofInt_natCast,BitVec.toNat_ofNat];exact Nat.mod_eq_of_lt (by omega)
 rw [BitVec.toNat_xor,h1,h2,Nat.xor_zero,IntKind.wrap_i64]
 omega
theorem Zi (n:Nat) (h:yD n):bits .xor .i64 (wrap64 ((n:Int) / 2)) (wrap64 (- wrap64 (bits .and .u64 (n:Int) 1)))=nR n:=by
 unfold yD at h
 rw [and_one _ (by omega) (by omega)]
 unfold nR
 have e:wrap64 ((n:Int) / 2)=((n / 2:Nat):Int):=by unfold wrap64;omega
 rw [e]
 split
 ·
  have e2:wrap64 (- wrap64 ((n:Int) % 2))=0:=by unfold wrap64;omega
  rw [e2,agQ _ (by omega)];omega
 have e2:wrap64 (- wrap64 ((n:Int) % 2)) = -1:=by unfold wrap64;omega
 rw [e2,agP _ (by omega)];omega
theorem abI (n:Nat) (h:yD n) (w:World):Calls Tryz.prog 93 #[.int .u64 n] w fun e w' => e = .returned (.int .i64 (nR n))∧w=w':=by
 have H:=Lib.hid (Zi n h)
 go_enter Tryz.func93,Tryz.ntmps93
 go_wp2
 go_ret
 exact ⟨by rw [← H.out];rfl,rfl⟩
theorem Zj (n:Nat) (h:yD n) (w:World):Calls Tryz.prog 100 #[.int .u64 n] w fun e w' => e = .returned (.int .i64 (nR n))∧w=w':=by
 go_enter Tryz.func100,Tryz.ntmps100
 go_wp2
 all_goals go_ret
 all_goals refine ⟨aV ?_,rfl⟩
 all_goals unfold yD at h
 all_goals unfold nR
 ·
  have h2:(n:Int) % 2=0:=beq_iff_eq.1 ‹((n:Int) % 2 == 0)=true›
  rw [if_pos h2]
  simp only [IntKind.wrap_u64,wrap64];omega
 have h2:¬ (n:Int) % 2=0:=beq_eq_false_iff_ne.1 ‹((n:Int) % 2 == 0)=false›
 rw [if_neg h2]
 simp only [IntKind.wrap_u64,wrap64];omega
theorem Lc (n:Nat) (h:yD n):I64 (nR n):=by
 unfold yD at h;unfold nR I64;split <;> omega
end Go.Proofs.YthkfapcadhnaeaaGreatDoor
namespace Go.Proofs.YthkfapcadhnaeaaGreatDoor
open Go.ChangeShapes Go.WideShapes Go.ChangeAt Go.RowKit
def zn (c:UInt8):Bool:=c.toNat == 95 || (decide (97≤c.toNat) && decide (c.toNat≤122)) || (decide (65≤c.toNat) && decide (c.toNat≤90))
def FH (c:UInt8):Bool:=decide (48≤c.toNat) && decide (c.toNat≤57)
def nameB (l:List UInt8):Bool:=decide (0 < l.length) && (decide (l.length≤24) && (zn (l.headD 0) && l.all (fun c => zn c || FH c)))
set_option maxRecDepth 100000 in
theorem VR (c:UInt8) (w:World):Calls Tryz.prog 153 #[B8 c] w fun e w' => e = .returned (.bool (zn c))∧w=w':=by
 have h0:c.toNat < 256:=c.toNat_lt
 unfold B8
 unfold zn
 generalize c.toNat=n at *
 go_enter Tryz.func153,Tryz.ntmps153
 go_wp2
 all_goals
  go_ret
  refine ⟨au ?_,rfl⟩
  rw [Bool.eq_iff_iff]
  simp
  try omega
set_option maxRecDepth 100000 in
theorem QX (c:UInt8) (w:World):Calls Tryz.prog 145 #[B8 c] w fun e w' => e = .returned (.bool (zn c))∧w=w':=by
 have h0:c.toNat < 256:=c.toNat_lt
 unfold B8
 unfold zn
 generalize c.toNat=n at *
 go_enter Tryz.func145,Tryz.ntmps145
 go_wp2
 all_goals
  go_ret
  refine ⟨au ?_,rfl⟩
  rw [Bool.eq_iff_iff]
  simp
  try omega
set_option maxRecDepth 100000 in
theorem adI (c:UInt8) (w:World):Calls Tryz.prog 154 #[B8 c] w fun e w' => e = .returned (.bool (FH c))∧w=w':=by
 have h0:c.toNat < 256:=c.toNat_lt
 unfold B8
 unfold FH
 generalize c.toNat=n at *
 go_enter Tryz.func154,Tryz.ntmps154
 go_wp2
 all_goals
  go_ret
  refine ⟨au ?_,rfl⟩
  rw [Bool.eq_iff_iff]
  simp
  try omega
set_option maxRecDepth 100000 in
theorem abJ (c:UInt8) (w:World):Calls Tryz.prog 146 #[B8 c] w fun e w' => e = .returned (.bool (FH c))∧w=w':=by
 have h0:c.toNat < 256:=c.toNat_lt
 unfold B8
 unfold FH
 generalize c.toNat=n at *
 go_enter Tryz.func146,Tryz.ntmps146
 go_wp2
 all_goals
  go_ret
  refine ⟨au ?_,rfl⟩
  rw [Bool.eq_iff_iff]
  simp
  try omega
theorem Ia (l:List UInt8) (k:Nat) (h:k < l.length):∃ (b:UInt8) (r:List UInt8),l.drop k=b :: r∧({ data:=l.toArray } : ByteArray)[k]'(by simpa [ByteArray.size] using h)=b∧l.drop (k+1)=r:=by
 refine ⟨l[k],l.drop (k+1),List.drop_eq_getElem_cons h,?_,rfl⟩
 show l.toArray[k]=_
 simp
theorem Qm (l:List UInt8) (h:l.length=0∨24 < l.length):nameB l=false:=by
 unfold nameB
 rcases h with h | h
 · rw [decide_eq_false (by omega)];rfl
 rw [decide_eq_false (p:=l.length≤24) (by omega)];simp
theorem VT (l:List UInt8) (c:UInt8) (r:List UInt8) (h:0 < l.length) (h2:l.length≤24) (hd:l.drop 0=c :: r):nameB l=(zn c && l.all (fun c => zn c || FH c)):=by
 rw [List.drop_zero] at hd
 unfold nameB;rw [decide_eq_true h,decide_eq_true h2,hd];rfl
set_option maxRecDepth 100000 in
theorem sK (l:List UInt8) (w:World):Calls Tryz.prog 126 #[.string ⟨l.toArray⟩] w fun e w' => e = .returned (.bool (nameB l))∧w=w':=by
 by_cases h0:l.length=0
 ·
  obtain rfl:l = []:=List.eq_nil_of_length_eq_zero h0
  go_enter Tryz.func126,Tryz.ntmps126
  go_wp2
  go_ret
  exact ⟨rfl,rfl⟩
 have hne:¬ l = []:=fun h => h0 (by rw [h];rfl)
 by_cases hl:24 < l.length
 ·
  have hn:=Lib.hid (Qm l (.inr hl))
  go_enter Tryz.func126,Tryz.ntmps126
  go_wp2
  go_ret
  exact ⟨au hn.out.symm,rfl⟩
 have hl1:0 < l.length:=by omega
 have hl2:(l.length:Int)≤24:=by omega
 have hie:l.isEmpty=false:=by cases l with | nil => exact absurd rfl hne | cons _ _ => rfl
 have h24:decide (24 < (l.length:Int))=false:=decide_eq_false (by omega)
 obtain ⟨c,r,hd,hb,-⟩:=Ia l 0 hl1
 have hn:=VT l c r hl1 (by omega) hd
 have hL:=fun W => VR c W
 clear hd h0 hl
 cases hc:zn c with
 | false =>
  rw [hc] at hL hn
  have HL:=Lib.hid hL
  have Hn:=Lib.hid hn
  clear hL hc hn
  go_enter Tryz.func126,Tryz.ntmps126
  go_wp2_with fail
  refine (HL.out _).mono ?_
  rintro e w2 ⟨rfl,rfl⟩
  go_wp2_with fail
  go_ret
  exact ⟨au (by rw [Hn.out];rfl),rfl⟩
 | true =>
  rw [hc] at hL hn
  rw [Bool.true_and] at hn
  have HL:=Lib.hid hL
  have Hn:=Lib.hid hn
  clear hL hc hn
  go_enter Tryz.func126,Tryz.ntmps126
  go_wp2_with fail
  refine (HL.out _).mono ?_
  rintro e w2 ⟨rfl,rfl⟩
  clear hb
  go_wp2_with fail
  go_loop [19] (fun i => ∃ k:Nat,k≤l.length∧i = .int .i64 k∧nameB l=(l.drop k).all (fun c => zn c || FH c)) (fun i => l.length - (intOf i).toNat)
  case atStart => exact ⟨0,by omega,rfl,by rw [Hn.out];rfl⟩
  case round =>
   obtain ⟨k,hk,rfl,hp⟩:=hrel
   by_cases hlt:k < l.length
   ·
    obtain ⟨b,r2,hd2,hb2,hr2⟩:=Ia l k hlt
    rw [hd2,List.all_cons,← hr2] at hp
    have hLb:=fun W => VR b W
    have D6:=fun W => adI b W
    clear hd2 hr2
    cases hlb:zn b with
    | true =>
     rw [hlb] at hLb hp
     rw [Bool.true_or,Bool.true_and] at hp
     have Ju:=Lib.hid hLb
     have Hp:=Lib.hid hp
     clear hLb D6 hp hlb
     go_wp2_with fail
     refine (Ju.out _).mono ?_
     rintro e w2 ⟨rfl,rfl⟩
     go_wp2_with fail
     go_round
     case rel => exact ⟨k+1,by omega,by go_num,Hp.out⟩
     case measure => simp [intOf];omega
    | false =>
     cases hdb:FH b with
     | true =>
      rw [hlb] at hLb hp
      rw [hdb] at D6 hp
      rw [Bool.or_true,Bool.true_and] at hp
      have Ju:=Lib.hid hLb
      have VU:=Lib.hid D6
      have Hp:=Lib.hid hp
      clear hLb D6 hp hlb hdb
      go_wp2_with fail
      refine (Ju.out _).mono ?_
      rintro e w2 ⟨rfl,rfl⟩
      go_wp2_with fail
      refine (VU.out _).mono ?_
      rintro e w2 ⟨rfl,rfl⟩
      go_wp2_with fail
      go_round
      case rel => exact ⟨k+1,by omega,by go_num,Hp.out⟩
      case measure => simp [intOf];omega
     | false =>
      rw [hlb] at hLb hp
      rw [hdb] at D6 hp
      rw [Bool.or_false,Bool.false_and] at hp
      have Ju:=Lib.hid hLb
      have VU:=Lib.hid D6
      have Hp:=Lib.hid hp
      clear hLb D6 hp hlb hdb
      go_wp2_with fail
      refine (Ju.out _).mono ?_
      rintro e w2 ⟨rfl,rfl⟩
      go_wp2_with fail
      refine (VU.out _).mono ?_
      rintro e w2 ⟨rfl,rfl⟩
      go_wp2_with fail
      go_ret
      exact ⟨au Hp.out.symm,rfl⟩
   rw [List.drop_eq_nil_of_le (by omega)] at hp
   have Hp:=Lib.hid hp
   clear hp
   go_wp2_with fail
   go_ret
   exact ⟨au (by rw [Hp.out];rfl),rfl⟩
set_option maxRecDepth 100000 in
theorem AL (l:List UInt8) (w:World):Calls Tryz.prog 121 #[.string ⟨l.toArray⟩] w fun e w' => e = .returned (.bool (nameB l))∧w=w':=by
 by_cases h0:l.length=0
 ·
  obtain rfl:l = []:=List.eq_nil_of_length_eq_zero h0
  go_enter Tryz.func121,Tryz.ntmps121
  go_wp2
  go_ret
  exact ⟨rfl,rfl⟩
 have hne:¬ l = []:=fun h => h0 (by rw [h];rfl)
 by_cases hl:24 < l.length
 ·
  have hn:=Lib.hid (Qm l (.inr hl))
  go_enter Tryz.func121,Tryz.ntmps121
  go_wp2
  go_ret
  exact ⟨au hn.out.symm,rfl⟩
 have hl1:0 < l.length:=by omega
 have hl2:(l.length:Int)≤24:=by omega
 have hie:l.isEmpty=false:=by cases l with | nil => exact absurd rfl hne | cons _ _ => rfl
 have h24:decide (24 < (l.length:Int))=false:=decide_eq_false (by omega)
 obtain ⟨c,r,hd,hb,-⟩:=Ia l 0 hl1
 have hn:=VT l c r hl1 (by omega) hd
 have hL:=fun W => QX c W
 clear hd h0 hl
 cases hc:zn c with
 | false =>
  rw [hc] at hL hn
  have HL:=Lib.hid hL
  have Hn:=Lib.hid hn
  clear hL hc hn
  go_enter Tryz.func121,Tryz.ntmps121
  go_wp2_with fail
  refine (HL.out _).mono ?_
  rintro e w2 ⟨rfl,rfl⟩
  go_wp2_with fail
  go_ret
  exact ⟨au (by rw [Hn.out];rfl),rfl⟩
 | true =>
  rw [hc] at hL hn
  rw [Bool.true_and] at hn
  have HL:=Lib.hid hL
  have Hn:=Lib.hid hn
  clear hL hc hn
  go_enter Tryz.func121,Tryz.ntmps121
  go_wp2_with fail
  refine (HL.out _).mono ?_
  rintro e w2 ⟨rfl,rfl⟩
  clear hb
  go_wp2_with fail
  go_loop [3] (fun i => ∃ k:Nat,k≤l.length∧i = .int .i64 k∧nameB l=(l.drop k).all (fun c => zn c || FH c)) (fun i => l.length - (intOf i).toNat)
  case atStart => exact ⟨0,by omega,rfl,by rw [Hn.out];rfl⟩
  case round =>
   obtain ⟨k,hk,rfl,hp⟩:=hrel
   by_cases hlt:k < l.length
   ·
    obtain ⟨b,r2,hd2,hb2,hr2⟩:=Ia l k hlt
    rw [hd2,List.all_cons,← hr2] at hp
    have hLb:=fun W => QX b W
    have D6:=fun W => abJ b W
    clear hd2 hr2
    cases hlb:zn b with
    | true =>
     rw [hlb] at hLb hp
     rw [Bool.true_or,Bool.true_and] at hp
     have Ju:=Lib.hid hLb
     have Hp:=Lib.hid hp
     clear hLb D6 hp hlb
     go_wp2_with fail
     refine (Ju.out _).mono ?_
     rintro e w2 ⟨rfl,rfl⟩
     go_wp2_with fail
     go_round
     case rel => exact ⟨k+1,by omega,by go_num,Hp.out⟩
     case measure => simp [intOf];omega
    | false =>
     cases hdb:FH b with
     | true =>
      rw [hlb] at hLb hp
      rw [hdb] at D6 hp
      rw [Bool.or_true,Bool.true_and] at hp
      have Ju:=Lib.hid hLb
      have VU:=Lib.hid D6
      have Hp:=Lib.hid hp
      clear hLb D6 hp hlb hdb
      go_wp2_with fail
      refine (Ju.out _).mono ?_
      rintro e w2 ⟨rfl,rfl⟩
      go_wp2_with fail
      refine (VU.out _).mono ?_
      rintro e w2 ⟨rfl,rfl⟩
      go_wp2_with fail
      go_round
      case rel => exact ⟨k+1,by omega,by go_num,Hp.out⟩
      case measure => simp [intOf];omega
     | false =>
      rw [hlb] at hLb hp
      rw [hdb] at D6 hp
      rw [Bool.or_false,Bool.false_and] at hp
      have Ju:=Lib.hid hLb
      have VU:=Lib.hid D6
      have Hp:=Lib.hid hp
      clear hLb D6 hp hlb hdb
      go_wp2_with fail
      refine (Ju.out _).mono ?_
      rintro e w2 ⟨rfl,rfl⟩
      go_wp2_with fail
      refine (VU.out _).mono ?_
      rintro e w2 ⟨rfl,rfl⟩
      go_wp2_with fail
      go_ret
      exact ⟨au Hp.out.symm,rfl⟩
   rw [List.drop_eq_nil_of_le (by omega)] at hp
   have Hp:=Lib.hid hp
   clear hp
   go_wp2_with fail
   go_ret
   exact ⟨au (by rw [Hp.out];rfl),rfl⟩
end Go.Proofs.YthkfapcadhnaeaaGreatDoor
namespace Go.Proofs.YthkfapcadhnaeaaGreatDoor
open Go.ChangeShapes Go.WideShapes Go.ChangeAt Go.RowKit
open Go.Maps (Keyed)
open Go.WideMaps
def kK (w:World) (b n:Nat) (S:List (List UInt8)):Prop :=
 ∃ D:DataW Unit,w.ownsMap Tryz.prog 9 (plainElem Tryz.prog 4) b n D∧∀ s:List UInt8,D.atKey (.string s) (.lit (.bool false)) = .lit (.bool (S.contains s))
theorem Jv {H:Type} {P:Program} {e:TypeId} (he:P.underlying e=some .bool) {v:Value} {z:DataW H × List MemPlace} (h:plainElem P e v=some z):∃ a,v = .bool a∧z=(.lit (.bool a),[]):=by
 unfold plainElem at h
 rw [he] at h
 cases v <;> simp at h
 exact ⟨_,rfl,h.symm⟩
theorem Xq:Keyed Tryz.prog 9:=Maps.string_keyed Tryz.underlying9
theorem adJ (w:World):(zeroValue 4).run Tryz.prog w = .ok (.bool false) w:=by kernel_rfl
theorem kK.made (w:World):kK (w.alloc (.map #[] 0)) w.heap.size 0 []:=⟨.map [],World.ownsMap_made _ _ _ _,fun _ => rfl⟩
theorem kK.here {w:World} {b n:Nat} {S:List (List UInt8)} (h:kK w b n S):b < w.heap.size:=by
 obtain ⟨D,h1,_⟩:=h
 exact h1.lt
theorem kK.keep {w w':World} {b n:Nat} {S:List (List UInt8)} (h:kK w b n S) (hk:w'.heap[b]?=w.heap[b]?):kK w' b n S:=by
 obtain ⟨D,⟨es,clock,h1,h2⟩,h3⟩:=h
 exact ⟨D,⟨es,clock,hk.trans h1,h2⟩,h3⟩
theorem kK.below {w w':World} {b n:Nat} {S:List (List UInt8)} (h:kK w b n S) {B:Nat} (hb:Below B w w') (hB:b < B):kK w' b n S:=h.keep (hb.block b hB)
theorem kK.look {w:World} {b n:Nat} {S:List (List UInt8)} (h:kK w b n S) (s:List UInt8) (hs:s.length≤maxLen) :
  (Instr.lookup 152 (.map (some b)) (.string ⟨s.toArray⟩) false).run Tryz.prog w = .ok (.bool (S.contains s)) w:=by
 obtain ⟨D,h1,h2⟩:=h
 obtain ⟨v,ps,hrun,hv⟩:=h1.lookup Xq Tryz.underlying152 (adJ w) (plainElem_bool Tryz.underlying4 false) (keyOf_string_mk Tryz.underlying9 (s:=⟨s.toArray⟩) (by simpa [ByteArray.size] using hs))
 have h3:=h2 s
 have h4:plainElem Tryz.prog 4 v=some ((DataW.lit (Lit.bool (S.contains s)):DataW Unit),ps):=by rw [← h3];exact hv
 obtain ⟨a,rfl,he⟩:=Jv Tryz.underlying4 h4
 have h5:S.contains s=a:=by
  have:=congrArg Prod.fst he
  simpa using this
 exact h5 ▸ hrun
theorem kK.put {w:World} {b n:Nat} {S:List (List UInt8)} (h:kK w b n S) (s:List UInt8) (hs:s.length≤maxLen) (hn:n < maxLen) :
  ∃ w',(Instr.mapUpdate 152 (.map (some b)) (.string ⟨s.toArray⟩) (.bool true)).run Tryz.prog w = .ok () w'∧kK w' b (n+1) (S ++ [s])∧w.grownBy w' (some b):=by
 obtain ⟨D,h1,h2⟩:=h
 have hm:=h1.isMap
 obtain ⟨w',r1,r2,r3⟩:=h1.update Xq Tryz.underlying152 hn (keyOf_string_mk Tryz.underlying9 (s:=⟨s.toArray⟩) (by simpa [ByteArray.size] using hs)) (plainElem_bool Tryz.underlying4 true)
 refine ⟨w',r1,⟨_,r2,fun q => ?_⟩,r3⟩
 rw [show (⟨s.toArray⟩ : ByteArray).data.toList=s by simp]
 by_cases hq:q=s
 ·
  subst hq
  rw [Maps.atKey_put_same hm (by trivial)]
  simp
 rw [Maps.atKey_put_other (by intro h;injection h with h;exact hq h),h2]
 simp [hq]
theorem vY {ops:Array Oper} {rest:List Oper} {o:Oper} {a:Act} {Q:Exit→Act→World→Prop} {w:World} (hg:o.guard=none) (m x v:Operand) (hop:o.op=Op.mapUpdate 152 m x v)
  (b n:Nat) (S:List (List UInt8)) (hm:a.eval m = .map (some b)) (hown:kK w b n S) (hn:n < maxLen) (s:List UInt8) (hx:a.eval x = .string ⟨s.toArray⟩) (hv:a.eval v = .bool true) (hl:s.length≤maxLen)
  (hK:∀ w',kK w' b (n+1) (S ++ [s])→w.grownBy w' (some b)→wpList Tryz.prog ops Q rest (a.put o.dst undef) w'):wpList Tryz.prog ops Q (o :: rest) a w:=by
 refine wpList_plain hg fun K' hK' => ?_
 obtain ⟨w',hrun,r1,r2⟩:=hown.put s hl hn
 unfold Oper.wp
 simp [execOp,hop,hm,hx,hv,hrun,Result.andThen]
 exact hK' _ _ (hK w' r1 r2)
end Go.Proofs.YthkfapcadhnaeaaGreatDoor
namespace Go.Proofs.YthkfapcadhnaeaaGreatDoor
open Go.ChangeShapes Go.WideShapes Go.ChangeAt Go.RowKit
end Go.Proofs.YthkfapcadhnaeaaGreatDoor
namespace Go.Proofs.YthkfapcadhnaeaaGreatDoor
open Go.ChangeShapes Go.WideShapes Go.ChangeAt Go.RowKit
def jU (l:List Raw) (k:Nat):Option Int:=if k=0 then none else (l[k-1]?).map Prod.fst
theorem qJ (l:List Raw) (k:Nat) (h:k < l.length):jU l (k+1)=some l[k].1:=by
 simp [jU,h]
end Go.Proofs.YthkfapcadhnaeaaGreatDoor
namespace Go.Proofs.YthkfapcadhnaeaaGreatDoor
open Go.ChangeShapes Go.WideShapes Go.ChangeAt Go.RowKit
def kL:List Raw→Option Int→List (List UInt8)→Bool
 | [],_,_ => true
 | r :: l,p,S => qV r.1 && (IU p r.1 && (!S.contains r.2 && (nameB r.2 && kL l (some r.1) (S ++ [r.2]))))
def kG (l:List Raw):Bool:=kL l none [] && decide (l.length≤16)
theorem Qn (l:List Raw) (k:Nat) (h:k < l.length) (S:List (List UInt8)) (p:Option Int) :
  kL (l.drop k) p S=(qV l[k].1 && (IU p l[k].1 && (!S.contains l[k].2 && (nameB l[k].2 && kL (l.drop (k+1)) (some l[k].1) (S ++ [l[k].2]))))):=by
 rw [List.drop_eq_getElem_cons h,kL]
theorem sO (l:List Raw) (k:Nat) (h:k < l.length):(l.take k).map Prod.snd ++ [l[k].2]=(l.take (k+1)).map Prod.snd:=by
 rw [List.take_succ_eq_append_getElem h,List.map_append];rfl
theorem Xr (a:Int) (h:a < 1):qV a=false:=by unfold qV;simp;omega
theorem Xt (a:Int) (h:1000 < a):qV a=false:=by unfold qV;simp;omega
theorem Xu (a:Int) (h1:1≤a) (h2:a≤1000):qV a=true:=by unfold qV;simp;omega
set_option maxRecDepth 100000 in
theorem VW (l:List Raw) (va vn:Value) (w:World) (hl:l.length≤6000000000000) (kT:∀ r ∈ l,pV r) (h1:Rd w w.heap.size 1 va l.length (l.map fun r => .int .i64 r.1)) (h2:Rd w w.heap.size 1 vn l.length (l.map fun r => .string ⟨r.2.toArray⟩)) :
  Calls Tryz.prog 155 #[va,vn] w fun e w' => e = .returned (.bool (kG l))∧Below w.heap.size w w':=by
 obtain ⟨A,c,rfl,hca⟩:=h1.form
 obtain ⟨B,d,rfl,hcb⟩:=h2.form
 have H1:=Lib.hid h1
 have H2:=Lib.hid h2
 have hmm:=@run_makeMap Tryz.prog
 have HRI:=Lib.hid kT
 clear h1 h2 kT
 go_enter Tryz.func155,Tryz.ntmps155
 go_wp2_with fail
 clear hmm
 go_loopw [11] (fun i wr => ∃ k:Nat,k≤l.length∧i = .int .i64 k∧kK wr w.heap.size k ((l.take k).map Prod.snd)∧kL l none []=kL (l.drop k) (jU l k) ((l.take k).map Prod.snd)∧Below w.heap.size w wr) (fun i _ => l.length - (intOf i).toNat)
 case atStart => exact ⟨0,by omega,rfl,kK.made w,by simp [jU],(Below.refl _ _).alloc (Nat.le_refl _) _⟩
 case round =>
  obtain ⟨k,hk,rfl,hset,hid,hb⟩:=hrel
  by_cases hlt:k < l.length
  ·
   obtain ⟨b1,o1,rfl,hb1,hc1⟩:=(H1.out.below hb).at_ (by omega)
   obtain ⟨b2,o2,rfl,hb2,hc2⟩:=(H2.out.below hb).at_ (by omega)
   have x1:=hc1 k (.int .i64 l[k].1) (by simp [hlt])
   have x2:=hc2 k (.string ⟨l[k].2.toArray⟩) (by simp [hlt])
   rw [Qn l k hlt] at hid
   have hsl:=(HRI.out _ (List.getElem_mem hlt)).2
   obtain ⟨a,haq⟩ : ∃ a,l[k].1=a:=⟨_,rfl⟩
   obtain ⟨s,zA⟩ : ∃ s,l[k].2=s:=⟨_,rfl⟩
   rw [haq] at x1 hid
   rw [zA] at x2 hid hsl
   have hi1:(k:Int) < l.length:=by omega
   by_cases hk0:k=0
   ·
    have hp:IU (jU l k) a=true:=by simp [jU,IU,hk0]
    have hkd:decide (0 < (k:Int))=false:=decide_eq_false (by omega)
    have aq9:(k:Int)≤0:=by omega
    rw [hp,Bool.true_and] at hid
    clear hc1 hc2 hp hk0
    have hlook:=hset.look s (by have:=(HRI.out _ (List.getElem_mem hlt)).2;rw [zA] at this;simp only [maxLen];omega)
    by_cases ha1:a < 1
    ·
     have Hno:Hid (kG l=false):=by
      show _=_
      unfold kG;rw [hid,Xr a ha1];simp
     clear hid hlook hset
     go_wp2_with fail
     go_ret
     exact ⟨au Hno.out.symm,hb⟩
    by_cases ha2:1000 < a
    ·
     have Hno:Hid (kG l=false):=by
      show _=_
      unfold kG;rw [hid,Xt a ha2];simp
     clear hid hlook hset
     go_wp2_with fail
     go_ret
     exact ⟨au Hno.out.symm,hb⟩
    rw [Xu a (by omega) (by omega),Bool.true_and] at hid
    have ha3:1≤a∧a≤1000:=by omega
    clear ha1 ha2
    skip
    cases hc:((l.take k).map Prod.snd).contains s with
    | true =>
     have Hno:Hid (kG l=false):=by
      show _=_
      unfold kG;rw [hid,hc];simp
     rw [hc] at hlook
     clear hid hset hc
     go_wp2_with fail
     go_ret
     exact ⟨au Hno.out.symm,hb⟩
    | false =>
     rw [hc] at hlook hid
     rw [Bool.not_false,Bool.true_and] at hid
     have hname:=fun W => sK s W
     cases hn:nameB s with
     | false =>
      have Hno:Hid (kG l=false):=by
       show _=_
       unfold kG;rw [hid,hn];simp
      rw [hn] at hname
      have HN:=Lib.hid hname
      clear hid hset hc hname hn
      go_wp2_with fail
      refine (HN.out _).mono ?_
      rintro e w2 ⟨rfl,rfl⟩
      go_wp2_with fail
      go_ret
      exact ⟨au Hno.out.symm,hb⟩
     | true =>
      rw [hn] at hname hid
      rw [Bool.true_and] at hid
      have HN:=Lib.hid hname
      have Jw:=Lib.hid hid
      have adK:=Lib.hid hset
      clear hid hset hc hname hn
      go_wp2_with fail
      refine (HN.out _).mono ?_
      rintro e w2 ⟨rfl,rfl⟩
      go_wp2_with (at_mapUpdate;refine vY rfl _ _ _ rfl w.heap.size k _ rfl adK.out (by unfold maxLen;omega) s rfl rfl (by unfold maxLen;omega) ?_;intro w3 zo hg3)
      have hb3:=hb.grown hg3 hb.size (fun j hj => by cases hj;exact Nat.le_refl _)
      have HS3:=Lib.hid zo
      have HB3:=Lib.hid hb3
      clear zo hg3 hb3 hlook
      go_wp2_with fail
      go_roundw
      case rel => exact ⟨k+1,by omega,by go_num,by have h:=HS3.out;rw [← zA,sO l (k) hlt] at h;exact h,by rw [Jw.out,← zA,sO l (k) hlt,qJ l (k) hlt,haq],HB3.out⟩
      case measure => simp [intOf];omega
   obtain ⟨j,rfl⟩ : ∃ j,k=j+1:=⟨k - 1,by omega⟩
   have x0:=hc1 j (.int .i64 l[j].1) (by simp [show j < l.length by omega])
   rw [qJ l j (by omega)] at hid
   have hw2:((j:Int)+1).toNat=j+1:=by omega
   have hw3:(j:Int)+1 - 1=j:=by omega
   have hi2:(j:Int) < l.length:=by omega
   generalize l[j].1=q at *
   clear hc1 hc2 hk0
   have hlook:=hset.look s (by have:=(HRI.out _ (List.getElem_mem hlt)).2;rw [zA] at this;simp only [maxLen];omega)
   by_cases ha1:a < 1
   ·
    have Hno:Hid (kG l=false):=by
     show _=_
     unfold kG;rw [hid,Xr a ha1];simp
    clear hid hlook hset
    go_wp2_with fail
    go_ret
    exact ⟨au Hno.out.symm,hb⟩
   by_cases ha2:1000 < a
   ·
    have Hno:Hid (kG l=false):=by
     show _=_
     unfold kG;rw [hid,Xt a ha2];simp
    clear hid hlook hset
    go_wp2_with fail
    go_ret
    exact ⟨au Hno.out.symm,hb⟩
   rw [Xu a (by omega) (by omega),Bool.true_and] at hid
   have ha3:1≤a∧a≤1000:=by omega
   clear ha1 ha2
   by_cases hle:a≤q
   ·
    have Hno:Hid (kG l=false):=by
     show _=_
     unfold kG;rw [hid,show IU (some q) a=false by simp [IU];omega];simp
    clear hid hlook hset
    go_wp2_with fail
    go_ret
    exact ⟨au Hno.out.symm,hb⟩
   rw [show IU (some q) a=true by simp [IU];omega,Bool.true_and] at hid
   have hle2:q < a:=by omega
   clear hle
   cases hc:((l.take (j+1)).map Prod.snd).contains s with
   | true =>
    have Hno:Hid (kG l=false):=by
     show _=_
     unfold kG;rw [hid,hc];simp
    rw [hc] at hlook
    clear hid hset hc
    go_wp2_with fail
    go_ret
    exact ⟨au Hno.out.symm,hb⟩
   | false =>
    rw [hc] at hlook hid
    rw [Bool.not_false,Bool.true_and] at hid
    have hname:=fun W => sK s W
    cases hn:nameB s with
    | false =>
     have Hno:Hid (kG l=false):=by
      show _=_
      unfold kG;rw [hid,hn];simp
     rw [hn] at hname
     have HN:=Lib.hid hname
     clear hid hset hc hname hn
     go_wp2_with fail
     refine (HN.out _).mono ?_
     rintro e w2 ⟨rfl,rfl⟩
     go_wp2_with fail
     go_ret
     exact ⟨au Hno.out.symm,hb⟩
    | true =>
     rw [hn] at hname hid
     rw [Bool.true_and] at hid
     have HN:=Lib.hid hname
     have Jw:=Lib.hid hid
     have adK:=Lib.hid hset
     clear hid hset hc hname hn
     go_wp2_with fail
     refine (HN.out _).mono ?_
     rintro e w2 ⟨rfl,rfl⟩
     go_wp2_with (at_mapUpdate;refine vY rfl _ _ _ rfl w.heap.size (j+1) _ rfl adK.out (by unfold maxLen;omega) s rfl rfl (by unfold maxLen;omega) ?_;intro w3 zo hg3)
     have hb3:=hb.grown hg3 hb.size (fun j hj => by cases hj;exact Nat.le_refl _)
     have HS3:=Lib.hid zo
     have HB3:=Lib.hid hb3
     clear zo hg3 hb3 hlook
     go_wp2_with fail
     go_roundw
     case rel => exact ⟨(j+1)+1,by omega,by go_num,by have h:=HS3.out;rw [← zA,sO l ((j+1)) hlt] at h;exact h,by rw [Jw.out,← zA,sO l ((j+1)) hlt,qJ l ((j+1)) hlt,haq],HB3.out⟩
     case measure => simp [intOf];omega
  have hke:k=l.length:=by omega
  rw [List.drop_eq_nil_of_le (by omega)] at hid
  have Jw:=Lib.hid hid
  clear hid hset
  go_wp2_with fail
  go_ret
  exact ⟨au (by unfold kG;rw [Jw.out];simp [kL];omega),hb⟩
end Go.Proofs.YthkfapcadhnaeaaGreatDoor
