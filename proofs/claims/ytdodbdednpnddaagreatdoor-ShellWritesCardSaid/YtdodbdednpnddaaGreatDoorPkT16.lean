/-
  PROVED HERE: what permafrostbook.Within, permafrostkeep.Lists and permafrostlaw17.records answer; conditions: lengths that a slice may have.
-/
import Derived.Test.YtdodbdednpnddaaGreatDoorPkT10
set_option maxRecDepth 100000
namespace Go.Proofs.YtdodbdednpnddaaGreatDoor
open Go.RowKit
theorem tmod_emod (n m:Int) (hm:0<m):(n.tmod m<0→n.tmod m+m=n%m)∧(¬ n.tmod m<0→n.tmod m=n%m):=by
 have h1:n.tmod m<m:=Int.tmod_lt_of_pos n hm
 have h2 : -m<n.tmod m:=by
  have:=Int.tmod_lt_of_pos (-n) hm
  rw [Int.neg_tmod] at this
  omega
 have h3:n=n.tmod m+m*n.tdiv m:=(Int.tmod_add_mul_tdiv n m).symm
 have h4:n%m=(n.tmod m)%m:=by
  conv=>lhs;rw [h3]
  rw [Int.add_mul_emod_self_left]
 generalize n.tmod m=r at *
 refine ⟨fun h=>?_,fun h=>?_⟩
 ·rw [h4,← Int.add_emod_right,Int.emod_eq_of_lt (by omega) (by omega)]
 ·rw [h4,Int.emod_eq_of_lt (by omega) (by omega)]
theorem within_any (n lo hi:Int) (w:World) (_hn0 : -9223372036854775808≤n) (_hn1:n≤9223372036854775807) (h0:0≤lo) (h1:lo≤hi) (h2:hi≤4611686018427387904):
  Calls Tryz.prog 7 #[.int .i64 n,.int .i64 lo,.int .i64 hi] w fun e w'=>e=.returned (.int .i64 (lo+n%(hi-lo+1)))∧w=w':=by
 have ht:=tmod_emod n (hi-lo+1) (by omega)
 have hb1:n.tmod (hi-lo+1)<hi-lo+1:=Int.tmod_lt_of_pos n (by omega)
 have hb2 : -(hi-lo+1)<n.tmod (hi-lo+1):=by
  have:=Int.tmod_lt_of_pos (-n) (show 0<hi-lo+1 by omega)
  rw [Int.neg_tmod] at this
  omega
 have q1:IntKind.i64.wrap (hi-lo)=hi-lo:=IntWalk.i64_in _ (by omega)
 have q2:IntKind.i64.wrap (hi-lo+1)=hi-lo+1:=IntWalk.i64_in _ (by omega)
 have q3:¬ hi-lo+1=0:=by omega
 have q4:IntKind.i64.wrap (n.tmod (hi-lo+1))=n.tmod (hi-lo+1):=IntWalk.i64_in _ (by omega)
 have HT:=Lib.hid ht
 clear ht
 generalize hr:n.tmod (hi-lo+1)=r at *
 generalize n%(hi-lo+1)=m at *
 by_cases hneg:r<0
 ·have q5:IntKind.i64.wrap (r+hi)=r+hi:=IntWalk.i64_in _ (by omega)
  have q6:IntKind.i64.wrap (r+hi-lo)=r+hi-lo:=IntWalk.i64_in _ (by omega)
  have q7:IntKind.i64.wrap (r+hi-lo+1)=r+hi-lo+1:=IntWalk.i64_in _ (by omega)
  have e:r+hi-lo+1=m:=by have:=HT.out.1 hneg;omega
  have q8:IntKind.i64.wrap (lo+(r+hi-lo+1))=lo+(r+hi-lo+1):=IntWalk.i64_in _ (by omega)
  have E:=Lib.hid e
  clear e
  go_enter Tryz.func7,Tryz.ntmps7
  go_wp2
  go_ret
  exact ⟨by rw [E.out];rfl,rfl⟩
 ·have q8:IntKind.i64.wrap (lo+r)=lo+r:=IntWalk.i64_in _ (by omega)
  have E:=Lib.hid (HT.out.2 hneg)
  go_enter Tryz.func7,Tryz.ntmps7
  go_wp2
  go_ret
  exact ⟨by rw [E.out];rfl,rfl⟩
end Go.Proofs.YtdodbdednpnddaaGreatDoor
