/- The message of a list of payloads, each cut to ten bytes. No condition. -/
import Derived.Test.YthkfapcadhnaeaaGreatDoorHAI
import Derived.Test.YthkfapcadhnaeaaGreatDoorHAF
set_option maxHeartbeats 800000
namespace Go.Proofs.YthkfapcadhnaeaaGreatDoor
open Go.ChangeShapes Go.WideShapes Go.ChangeAt Go.RowKit
theorem abk (c:Nat) (h:c < 128):Utf8.encode (c:Int) = { data:=[UInt8.ofNat c].toArray }:=by
 have:∀ i:Fin 128,Utf8.encode ((i.val:Nat):Int) = { data:=[UInt8.ofNat i.val].toArray }:=by decide +kernel
 exact this ⟨c,h⟩
theorem abl {l:List (List UInt8)} {k:Nat} (hk:k < l.length) (q:List UInt8) (hq:q=Aq l[k]):({ data:=(pack (l.take k)).toArray } : ByteArray) ++ (Utf8.encode ((q.length:Nat):Int) ++ { data:=q.toArray }) = { data:=(pack (l.take (k+1))).toArray }:=by
 subst hq
 rw [abk _ (by have:=QN l[k];omega)]
 have e:pack (l.take (k+1))=pack (l.take k) ++ (UInt8.ofNat (Aq l[k]).length :: Aq l[k]):=by
  have e1:l.take (k+1)=l.take k ++ [l[k]]:=by rw [List.take_add_one,List.getElem?_eq_getElem hk];rfl
  rw [e1,pack,List.flatMap_append]
  simp [pack]
 rw [e]
 apply ByteArray.ext
 simp [ByteArray.data_append]
theorem akO (p:List UInt8):({ data:=p.toArray } : ByteArray).extract 0 (if (p.length:Int) < 10 then (p.length:Int) else 10).toNat=⟨(Aq p).toArray⟩:=by
 apply ByteArray.ext
 simp only [ByteArray.data_extract,Aq]
 by_cases h:(p.length:Int) < 10
 · rw [if_pos h,List.take_of_length_le (by omega)];simp
 rw [if_neg h];simp
set_option maxRecDepth 100000 in
theorem aiN (l:List (List UInt8)) (A:Option Addr) (c:Nat) (w:World) (h:Rd w w.heap.size 1 (.slice A l.length c) l.length (l.map SB)) (hl:l.length≤300) (hz:∀ p ∈ l,p.length≤140737488351232) :
  Calls Tryz.prog 29 #[.slice A l.length c] w fun e w' => e = .returned (.string ⟨(pack l).toArray⟩)∧Below w.heap.size w w':=by
 by_cases hn:l.length=0
 ·
  have:l = []:=List.eq_nil_of_length_eq_zero hn
  subst this
  clear h
  go_enter Tryz.func29,Tryz.ntmps29
  go_wp2_with fail
  go_loopw [3,8] (fun s3 i wr => s3 = .string ⟨#[]⟩∧i = .int .i64 0∧wr=w) (fun _ i _ => 0)
  case atStart => exact ⟨rfl,rfl,rfl⟩
  case round =>
   obtain ⟨rfl,rfl,rfl⟩:=hrel
   go_wp2_with fail
   go_ret
   exact ⟨rfl,Below.refl _ _⟩
 obtain ⟨b,o,rfl,_,hcell⟩:=h.at_ (Nat.pos_of_ne_zero hn)
 have HC:=Lib.hid hcell
 have HZ:=Lib.hid hz
 clear h hcell hz hn
 go_enter Tryz.func29,Tryz.ntmps29
 go_wp2_with fail
 go_loopw [3,8] (fun s3 i wr => ∃ k:Nat,k≤l.length∧i = .int .i64 k∧s3 = .string ⟨(pack (l.take k)).toArray⟩∧wr=w) (fun _ i _ => l.length - (intOf i).toNat)
 case atStart => exact ⟨0,by omega,rfl,rfl,rfl⟩
 case round =>
  obtain ⟨k,hk,rfl,rfl,rfl⟩:=hrel
  by_cases hlt:k < l.length
  ·
   have hx:wr.cell? ⟨b,o+k,none⟩=some (.string ⟨l[k].toArray⟩):=HC.out k _ (by rw [List.getElem?_map,List.getElem?_eq_getElem hlt];rfl)
   have hzk:=HZ.out l[k] (List.getElem_mem hlt)
   have hi1:(k:Int) < l.length:=by omega
   have HP:=Lib.hid (abl hlt (Aq l[k]) rfl)
   generalize hp:l[k]=p at *
   have hz0:(pack (l.take k)).length≤3300:=by have:=Vr (l.take k);simp at this;omega
   go_upto_region 6 with fail
   have hex:({ data:=p.toArray } : ByteArray).extract 0 (if (p.length:Int) < 10 then (p.length:Int) else 10).toNat=⟨(Aq p).toArray⟩:=akO p
   have anT:=QN p
   have ak7:({ data:=p.toArray } : ByteArray).extract 0 (min (10:Int) (p.length:Int)).toNat=⟨(Aq p).toArray⟩:=by
    rw [← hex];congr 2;split <;> omega
   first | rw [hex] | rw [ak7]
   generalize Aq p=r at *
   clear hex ak7 hp hx hzk
   obtain ⟨q,hq⟩ : ∃ q,r.length=q:=⟨_,rfl⟩
   rw [hq] at anT HP
   have hs:(Utf8.encode (q:Int)).size=1:=by rw [abk _ (by omega)];rfl
   have hwq:IntKind.i32.wrap (q:Int)=q:=by rw [IntKind.wrap_i32];omega
   go_wp2_with fail
   go_roundw
   case rel => exact ⟨k+1,by omega,by go_num,by rw [HP.out],trivial⟩
   case measure => simp [intOf];omega
  have hi1:¬ (k:Int) < l.length:=by omega
  go_wp2_with fail
  go_ret
  exact ⟨by rw [List.take_of_length_le (by omega)];rfl,Below.refl _ _⟩
end Go.Proofs.YthkfapcadhnaeaaGreatDoor
