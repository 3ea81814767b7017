/- Packed: Ra, Rb, Row. No conditions. -/
import Derived.Test.YtjdkigkknhefpaaDoorPc2
import Derived.Test.YtjdkigkknhefpaaDoorRows
import Derived.WalkKit
import Derived.ProofKit
import Derived.OpenShut
import Derived.ShutString
import Derived.ChangeOld
import Derived.Below
import Derived.Carry
import Derived.SizedLaws
set_option maxHeartbeats 4000000
namespace Go.Proofs.YtjdkigkknhefpaaDoor.Co
open Go Go.Proofs.YtjdkigkknhefpaaDoor.Eng Go.Proofs.YtjdkigkknhefpaaDoor.Mem Go.Proofs.YtjdkigkknhefpaaDoor.Ly
set_option linter.unusedSimpArgs false
set_option linter.unusedVariables false
set_option maxRecDepth 100000
def MN(nm:Nat→ByteArray):List Value:=[.string (nm 0),.int .i64 0,.int .i64 0,.string (nm 1),.int .i64 1,.int .i64 1,.string (nm 2),.int .i64 3,.int .i64 1,.string (nm 3),.int .i64 5,.int .i64 1,.string (nm 4),.int .i64 5,.int .i64 1,.string (nm 5),.int .i64 4,.int .i64 1,.string (nm 6),.int .i64 4,.int .i64 1,.string (nm 7),.int .i64 4,.int .i64 3,.string (nm 8),.int .i64 4,.int .i64 8,.string (nm 9),.int .i64 4,.int .i64 8,.string (nm 10),.int .i64 4,.int .i64 1,.string (nm 11),.int .i64 4,.int .i64 1,.string (nm 12),.int .i64 4,.int .i64 1,.string (nm 13),.int .i64 4,.int .i64 1,.string (nm 14),.int .i64 4,.int .i64 1,.string (nm 15),.int .i64 4,.int .i64 1,.string (nm 16),.int .i64 4,.int .i64 1,.string (nm 17),.int .i64 4,.int .i64 1,.string (nm 18),.int .i64 6,.int .i64 1,.string (nm 19),.int .i64 6,.int .i64 1,.string (nm 20),.int .i64 6,.int .i64 1,.string (nm 21),.int .i64 6,.int .i64 1,.string (nm 22),.int .i64 6,.int .i64 1,.string (nm 23),.int .i64 6,.int .i64 1,.string (nm 24),.int .i64 6,.int .i64 1,.string (nm 25),.int .i64 6,.int .i64 1,.string (nm 26),.int .i64 7,.int .i64 1,.string (nm 27),.int .i64 5,.int .i64 1,.string (nm 28),.int .i64 2,.int .i64 1,.string (nm 29),.int .i64 2,.int .i64 1,.string (nm 30),.int .i64 7,.int .i64 24]
def H8(nm:Nat→ByteArray)(w:World):Prop:=∀ (k:Nat) (v:Value),(MN nm)[k]? = some v→w.cell? ⟨0,0+k,none⟩=some v
theorem H8.ext{nm:Nat→ByteArray}{w w':World}(h:H8 nm w)(hk:(old (fun _=>False) w).holds w'):H8 nm w':=fun k v hv=>BQ (h k v hv) w' hk
def Je:List Int:=[2147483656,0,0,0,0,0,0,0,0,0,0,0,0,0,0,0,2147483671,2147483673,0,0,0,0,0,0,0,0,0,0,0,0,0,0,205520901,1283457040,1346371600,2013265926,0,0,0,0,0,0,0,0,0,0,0,0,77,0,0,0,0,0,0,0,0,0,0,0,0,0,0,0]
theorem Kq:([]:List Int)++(((((((((List.replicate 64 0).set 0 2147483656).set 16 2147483671).set 17 2147483673).set 32 205520901).set 33 1283457040).set 34 1346371600).set 35 2013265926).set 48 77)=Je:=by kernel_rfl
abbrev Dq(w142:World):=bk (w142.heap.size+8) #[.func (.func 39) #[] #[],.func (.func 40) #[] #[],.func (.func 41) #[] #[],.func (.func 42) #[] #[],.func (.func 43) #[] #[],.func (.func 39) #[] #[],.func (.func 39) #[] #[],.func (.func 39) #[] #[],.func (.func 39) #[] #[],.func (.func 39) #[] #[],.func (.func 39) #[] #[],.func (.func 39) #[] #[],.func (.func 39) #[] #[],.func (.func 39) #[] #[],.func (.func 39) #[] #[],.func (.func 39) #[] #[],.func (.func 39) #[] #[],.func (.func 39) #[] #[],.func (.func 44) #[] #[],.func (.func 45) #[] #[],.func (.func 46) #[] #[],.func (.func 47) #[] #[],.func (.func 47) #[] #[],.func (.func 47) #[] #[],.func (.func 47) #[] #[],.func (.func 47) #[] #[],.func (.func 48) #[] #[],.func (.func 49) #[] #[],.func (.func 50) #[] #[],.func (.func 51) #[] #[],.func (.func 52) #[] #[]] 82
abbrev Dt(w142:World):=bk (w142.heap.size+9) #[.func (.func 39) #[] #[],.func (.func 40) #[] #[],.func (.func 41) #[] #[],.func (.func 42) #[] #[],.func (.func 43) #[] #[],.func (.func 39) #[] #[],.func (.func 39) #[] #[],.func (.func 39) #[] #[],.func (.func 39) #[] #[],.func (.func 39) #[] #[],.func (.func 39) #[] #[],.func (.func 39) #[] #[],.func (.func 39) #[] #[],.func (.func 39) #[] #[],.func (.func 39) #[] #[],.func (.func 39) #[] #[],.func (.func 39) #[] #[],.func (.func 39) #[] #[],.func (.func 44) #[] #[],.func (.func 45) #[] #[],.func (.func 46) #[] #[],.func (.func 47) #[] #[],.func (.func 47) #[] #[],.func (.func 47) #[] #[],.func (.func 47) #[] #[],.func (.func 47) #[] #[],.func (.func 48) #[] #[],.func (.func 49) #[] #[],.func (.func 50) #[] #[],.func (.func 51) #[] #[],.func (.func 52) #[] #[]] 82
abbrev Be(w75:World):=bk (w75.heap.size+8) #[.func (.func 39) #[] #[],.func (.func 40) #[] #[],.func (.func 41) #[] #[],.func (.func 42) #[] #[],.func (.func 43) #[] #[],.func (.func 39) #[] #[],.func (.func 39) #[] #[],.func (.func 39) #[] #[],.func (.func 39) #[] #[],.func (.func 39) #[] #[],.func (.func 39) #[] #[],.func (.func 39) #[] #[],.func (.func 39) #[] #[],.func (.func 39) #[] #[],.func (.func 39) #[] #[],.func (.func 39) #[] #[],.func (.func 39) #[] #[],.func (.func 39) #[] #[],.func (.func 44) #[] #[],.func (.func 45) #[] #[],.func (.func 46) #[] #[],.func (.func 47) #[] #[],.func (.func 47) #[] #[],.func (.func 47) #[] #[],.func (.func 47) #[] #[],.func (.func 47) #[] #[],.func (.func 48) #[] #[],.func (.func 49) #[] #[],.func (.func 50) #[] #[],.func (.func 51) #[] #[],.func (.func 52) #[] #[]] 82
abbrev Bd(w75:World):=bk (w75.heap.size+9) #[.func (.func 39) #[] #[],.func (.func 40) #[] #[],.func (.func 41) #[] #[],.func (.func 42) #[] #[],.func (.func 43) #[] #[],.func (.func 39) #[] #[],.func (.func 39) #[] #[],.func (.func 39) #[] #[],.func (.func 39) #[] #[],.func (.func 39) #[] #[],.func (.func 39) #[] #[],.func (.func 39) #[] #[],.func (.func 39) #[] #[],.func (.func 39) #[] #[],.func (.func 39) #[] #[],.func (.func 39) #[] #[],.func (.func 39) #[] #[],.func (.func 39) #[] #[],.func (.func 44) #[] #[],.func (.func 45) #[] #[],.func (.func 46) #[] #[],.func (.func 47) #[] #[],.func (.func 47) #[] #[],.func (.func 47) #[] #[],.func (.func 47) #[] #[],.func (.func 47) #[] #[],.func (.func 48) #[] #[],.func (.func 49) #[] #[],.func (.func 50) #[] #[],.func (.func 51) #[] #[],.func (.func 52) #[] #[]] 82
abbrev KC(w75 w24:World)(n9:Nat):=bk (w75.heap.size+13) #[.int .u32 0,.int .u32 5,.int .u32 77,.int .u32 0,.int .u32 0,.int .u32 0,.int .u32 0,.int .u32 0,.int .u32 0,.int .u32 0,.int .u32 0,.int .u32 0,.int .u32 0,.int .u32 0,.int .u32 0,.int .u32 0,.int .u32 2,pt w24.heap.size,pt n9,i6 0,.int .u32 914,i6 19,i6 2,i6 0,i6 0,i6 16,i6 14,i6 0,i6 (-1),.int .u32 1,.int .u32 1283457040,.bool true,.int .u32 16,.int .u32 77] 79
abbrev HY(w75 w24:World)(n9:Nat):=bk (w75.heap.size+13) #[.int .u32 0,.int .u32 5,.int .u32 77,.int .u32 0,.int .u32 0,.int .u32 0,.int .u32 0,.int .u32 0,.int .u32 0,.int .u32 0,.int .u32 0,.int .u32 0,.int .u32 0,.int .u32 0,.int .u32 0,.int .u32 0,.int .u32 2,pt w24.heap.size,pt n9,i6 0,.int .u32 914,i6 19,i6 2,i6 0,i6 0,i6 16,i6 15,i6 0,i6 (-1),.int .u32 1,.int .u32 1283457040,.bool true,.int .u32 16,.int .u32 77] 79
abbrev MF(w75 w24:World)(n9:Nat):=bk (w75.heap.size+13) #[.int .u32 0,.int .u32 5,.int .u32 0,.int .u32 0,.int .u32 0,.int .u32 0,.int .u32 0,.int .u32 0,.int .u32 0,.int .u32 0,.int .u32 0,.int .u32 0,.int .u32 0,.int .u32 0,.int .u32 0,.int .u32 0,.int .u32 2,pt w24.heap.size,pt n9,i6 0,.int .u32 914,i6 19,i6 2,i6 0,i6 0,i6 16,i6 14,i6 0,i6 (-1),.int .u32 1,.int .u32 1283457040,.bool true,.int .u32 16,.int .u32 77] 79
abbrev LV(w75 w24:World)(n9:Nat):=bk (w75.heap.size+13) #[.int .u32 0,.int .u32 5,.int .u32 0,.int .u32 0,.int .u32 0,.int .u32 0,.int .u32 0,.int .u32 0,.int .u32 0,.int .u32 0,.int .u32 0,.int .u32 0,.int .u32 0,.int .u32 0,.int .u32 0,.int .u32 0,.int .u32 2,pt w24.heap.size,pt n9,i6 0,.int .u32 914,i6 19,i6 2,i6 0,i6 0,i6 16,i6 14,i6 0,i6 (-1),.int .u32 1,.int .u32 1283457040,.bool false,.int .u32 0,.int .u32 0] 79
abbrev BR(w75 w24:World)(n9:Nat):=bk (w75.heap.size+13) #[.int .u32 0,.int .u32 5,.int .u32 0,.int .u32 0,.int .u32 0,.int .u32 0,.int .u32 0,.int .u32 0,.int .u32 0,.int .u32 0,.int .u32 0,.int .u32 0,.int .u32 0,.int .u32 0,.int .u32 0,.int .u32 0,.int .u32 2,pt w24.heap.size,pt n9,i6 0,.int .u32 914,i6 19,i6 2,i6 0,i6 0,i6 16,i6 1,i6 0,i6 (-1),.int .u32 1,.int .u32 1283457040,.bool false,.int .u32 0,.int .u32 0] 79
abbrev FH(w75 w24:World)(n9:Nat):=bk (w75.heap.size+13) #[.int .u32 0,.int .u32 5,.int .u32 0,.int .u32 0,.int .u32 0,.int .u32 0,.int .u32 0,.int .u32 0,.int .u32 0,.int .u32 0,.int .u32 0,.int .u32 0,.int .u32 0,.int .u32 0,.int .u32 0,.int .u32 0,.int .u32 2,pt w24.heap.size,pt n9,i6 0,.int .u32 914,i6 19,i6 2,i6 0,i6 0,i6 16,i6 7,i6 0,i6 (-1),.int .u32 1,.int .u32 1283457040,.bool false,.int .u32 0,.int .u32 0] 79
abbrev Ed(w75 w24:World)(n9:Nat):=bk (w75.heap.size+13) #[.int .u32 0,.int .u32 5,.int .u32 0,.int .u32 0,.int .u32 0,.int .u32 0,.int .u32 0,.int .u32 0,.int .u32 0,.int .u32 0,.int .u32 0,.int .u32 0,.int .u32 0,.int .u32 0,.int .u32 0,.int .u32 0,.int .u32 1,pt w24.heap.size,pt n9,i6 0,.int .u32 914,i6 0,i6 0,i6 0,i6 0,i6 0,i6 1,i6 0,i6 (-1),.int .u32 1,.int .u32 1283457040,.bool false,.int .u32 0,.int .u32 0] 79
abbrev Ej(w24:World)(n9:Nat):=bk (w24.heap.size+2) #[.int .u32 0,.int .u32 0,.int .u32 0,.int .u32 0,.int .u32 0,.int .u32 0,.int .u32 0,.int .u32 0,.int .u32 0,.int .u32 0,.int .u32 0,.int .u32 0,.int .u32 0,.int .u32 0,.int .u32 0,.int .u32 0,.int .u32 0,pt w24.heap.size,pt n9,i6 0,.int .u32 900,i6 0,i6 0,i6 0,i6 0,i6 0,i6 13,i6 0,i6 (-1),.int .u32 0,.int .u32 205520901,.bool false,.int .u32 0,.int .u32 0] 79
abbrev BJ(w24:World)(n9:Nat):=bk (w24.heap.size+2) #[.int .u32 0,.int .u32 0,.int .u32 0,.int .u32 0,.int .u32 0,.int .u32 0,.int .u32 0,.int .u32 0,.int .u32 0,.int .u32 0,.int .u32 0,.int .u32 0,.int .u32 0,.int .u32 0,.int .u32 0,.int .u32 0,.int .u32 1,pt w24.heap.size,pt n9,i6 0,.int .u32 900,i6 3,i6 1,i6 0,i6 0,i6 5,i6 13,i6 0,i6 (-1),.int .u32 0,.int .u32 205520901,.bool false,.int .u32 0,.int .u32 0] 79
abbrev Js(w24:World)(n9:Nat):=bk (w24.heap.size+2) #[.int .u32 0,.int .u32 5,.int .u32 0,.int .u32 0,.int .u32 0,.int .u32 0,.int .u32 0,.int .u32 0,.int .u32 0,.int .u32 0,.int .u32 0,.int .u32 0,.int .u32 0,.int .u32 0,.int .u32 0,.int .u32 0,.int .u32 1,pt w24.heap.size,pt n9,i6 0,.int .u32 900,i6 3,i6 1,i6 0,i6 0,i6 5,i6 13,i6 0,i6 (-1),.int .u32 0,.int .u32 205520901,.bool false,.int .u32 0,.int .u32 0] 79
abbrev AP(w24:World)(n9:Nat):=bk (w24.heap.size+2) #[.int .u32 0,.int .u32 5,.int .u32 0,.int .u32 0,.int .u32 0,.int .u32 0,.int .u32 0,.int .u32 0,.int .u32 0,.int .u32 0,.int .u32 0,.int .u32 0,.int .u32 0,.int .u32 0,.int .u32 0,.int .u32 0,.int .u32 1,pt w24.heap.size,pt n9,i6 0,.int .u32 900,i6 3,i6 1,i6 0,i6 0,i6 5,i6 14,i6 0,i6 (-1),.int .u32 0,.int .u32 205520901,.bool false,.int .u32 0,.int .u32 0] 79
abbrev LJ(w24:World)(n9:Nat):=bk (w24.heap.size+2) #[.int .u32 0,.int .u32 0,.int .u32 0,.int .u32 0,.int .u32 0,.int .u32 0,.int .u32 0,.int .u32 0,.int .u32 0,.int .u32 0,.int .u32 0,.int .u32 0,.int .u32 0,.int .u32 0,.int .u32 0,.int .u32 0,.int .u32 0,pt w24.heap.size,pt n9,i6 0,.int .u32 900,i6 0,i6 0,i6 0,i6 0,i6 0,i6 13,i6 0,i6 (-1),.int .u32 0,.int .u32 0,.bool false,.int .u32 0,.int .u32 0] 79
abbrev Jw(w75 w24:World)(n9:Nat):=bk (w75.heap.size+13) #[.int .u32 0,.int .u32 5,.int .u32 0,.int .u32 0,.int .u32 0,.int .u32 0,.int .u32 0,.int .u32 0,.int .u32 0,.int .u32 0,.int .u32 0,.int .u32 0,.int .u32 0,.int .u32 0,.int .u32 0,.int .u32 0,.int .u32 1,pt w24.heap.size,pt n9,i6 0,.int .u32 914,i6 0,i6 0,i6 0,i6 0,i6 0,i6 0,i6 0,i6 (-1),.int .u32 1,.int .u32 0,.bool false,.int .u32 0,.int .u32 0] 79
abbrev Ls(w75 w24:World)(n9:Nat):=bk (w75.heap.size+13) #[.int .u32 0,.int .u32 5,.int .u32 0,.int .u32 0,.int .u32 0,.int .u32 0,.int .u32 0,.int .u32 0,.int .u32 0,.int .u32 0,.int .u32 0,.int .u32 0,.int .u32 0,.int .u32 0,.int .u32 0,.int .u32 0,.int .u32 1,pt w24.heap.size,pt n9,i6 0,.int .u32 914,i6 0,i6 0,i6 0,i6 0,i6 0,i6 1,i6 0,i6 (-1),.int .u32 1,.int .u32 0,.bool false,.int .u32 0,.int .u32 0] 79
abbrev LU(w24:World)(n9:Nat):=bk (w24.heap.size+2) #[.int .u32 0,.int .u32 0,.int .u32 0,.int .u32 0,.int .u32 0,.int .u32 0,.int .u32 0,.int .u32 0,.int .u32 0,.int .u32 0,.int .u32 0,.int .u32 0,.int .u32 0,.int .u32 0,.int .u32 0,.int .u32 0,.int .u32 0,pt w24.heap.size,pt n9,i6 0,.int .u32 900,i6 0,i6 0,i6 0,i6 0,i6 0,i6 0,i6 0,i6 (-1),.int .u32 0,.int .u32 0,.bool false,.int .u32 0,.int .u32 0] 79
abbrev Ei(w24:World)(n9:Nat):=bk (w24.heap.size+2) #[.int .u32 0,.int .u32 0,.int .u32 0,.int .u32 0,.int .u32 0,.int .u32 0,.int .u32 0,.int .u32 0,.int .u32 0,.int .u32 0,.int .u32 0,.int .u32 0,.int .u32 0,.int .u32 0,.int .u32 0,.int .u32 0,.int .u32 0,pt w24.heap.size,pt n9,i6 0,.int .u32 900,i6 0,i6 0,i6 0,i6 0,i6 0,i6 6,i6 0,i6 (-1),.int .u32 0,.int .u32 0,.bool false,.int .u32 0,.int .u32 0] 79
abbrev BM(w142:World):=bk (w142.heap.size+8) #[.nilFunc,.nilFunc,.nilFunc,.nilFunc,.nilFunc,.nilFunc,.nilFunc,.nilFunc,.nilFunc,.nilFunc,.nilFunc,.nilFunc,.nilFunc,.nilFunc,.nilFunc,.nilFunc,.nilFunc,.nilFunc,.nilFunc,.nilFunc,.nilFunc,.nilFunc,.nilFunc,.nilFunc,.nilFunc,.nilFunc,.nilFunc,.nilFunc,.nilFunc,.nilFunc,.nilFunc] 82
abbrev BN(w75:World):=bk (w75.heap.size+8) #[.nilFunc,.nilFunc,.nilFunc,.nilFunc,.nilFunc,.nilFunc,.nilFunc,.nilFunc,.nilFunc,.nilFunc,.nilFunc,.nilFunc,.nilFunc,.nilFunc,.nilFunc,.nilFunc,.nilFunc,.nilFunc,.nilFunc,.nilFunc,.nilFunc,.nilFunc,.nilFunc,.nilFunc,.nilFunc,.nilFunc,.nilFunc,.nilFunc,.nilFunc,.nilFunc,.nilFunc] 82
abbrev Ib(w24:World)(c18 t22:Nat):Ch:= .blk w24.heap.size (.cells #[.int .u32 0,.int .u32 5,.int .u32 77,.int .u32 0,.int .u32 0,.int .u32 0,.int .u32 0,.int .u32 0,.int .u32 0,.int .u32 0,.int .u32 0,.int .u32 0,.int .u32 0,.int .u32 0,.int .u32 0,.int .u32 0,.int .u32 2,pt c18,pt t22] 74 (0,0)) true
abbrev AZ(w24:World)(c18 t22:Nat):Ch:= .blk w24.heap.size (.cells #[.int .u32 0,.int .u32 0,.int .u32 0,.int .u32 0,.int .u32 0,.int .u32 0,.int .u32 0,.int .u32 0,.int .u32 0,.int .u32 0,.int .u32 0,.int .u32 0,.int .u32 0,.int .u32 0,.int .u32 0,.int .u32 0,.int .u32 0,pt c18,pt t22] 74 (0,0)) true
abbrev AX(w24:World)(c18 t22:Nat):Ch:= .blk w24.heap.size (.cells #[.int .u32 0,.int .u32 5,.int .u32 0,.int .u32 0,.int .u32 0,.int .u32 0,.int .u32 0,.int .u32 0,.int .u32 0,.int .u32 0,.int .u32 0,.int .u32 0,.int .u32 0,.int .u32 0,.int .u32 0,.int .u32 0,.int .u32 1,pt c18,pt t22] 74 (0,0)) true
abbrev Iq(w75:World):=bk (w75.heap.size+12) #[i6 15,i6 0,i6 (-1),.int .u32 1,.int .u32 1283457040,.bool true,.int .u32 16,.int .u32 77] 37
abbrev Jv(w233:World):=bk (w233.heap.size+1) #[i6 15,i6 0,i6 (-1),.int .u32 1,.int .u32 1283457040,.bool true,.int .u32 16,.int .u32 77] 37
abbrev AV(w75:World):=bk (w75.heap.size+11) #[i6 14,i6 0,i6 (-1),.int .u32 0,.int .u32 205520901,.bool false,.int .u32 0,.int .u32 0] 37
abbrev AQ(w24:World):=bk (w24.heap.size+1) #[i6 14,i6 0,i6 (-1),.int .u32 0,.int .u32 205520901,.bool false,.int .u32 0,.int .u32 0] 37
abbrev Ba(w75:World):=bk (w75.heap.size+12) #[i6 0,i6 0,i6 0,.int .u32 0,.int .u32 0,.bool false,.int .u32 0,.int .u32 0] 37
abbrev Bc(w24:World):=bk (w24.heap.size+1) #[i6 0,i6 0,i6 0,.int .u32 0,.int .u32 0,.bool false,.int .u32 0,.int .u32 0] 37
abbrev Bh(w142:World):=bk (w142.heap.size+2) #[i6 19,i6 2,i6 0,i6 0,i6 16] 77
abbrev Bi(w142:World):=bk (w142.heap.size+4) #[i6 19,i6 2,i6 0,i6 0,i6 16] 77
abbrev Bq(w142:World):=bk (w142.heap.size+1) #[i6 19,i6 2,i6 0,i6 0,i6 16] 77
abbrev Bv(w142:World):=bk (w142.heap.size+7) #[i6 19,i6 2,i6 0,i6 0,i6 16] 77
abbrev J7(w142:World):=bk (w142.heap.size+2) #[i6 19,i6 0,i6 0,i6 0,i6 0] 77
abbrev LP(w142:World):=bk (w142.heap.size+2) #[i6 19,i6 2,i6 0,i6 0,i6 0] 77
abbrev EG(w142:World):=bk (w142.heap.size+1) #[i6 0,i6 0,i6 0,i6 0,i6 0] 77
abbrev EW(w75:World):=bk (w75.heap.size+1) #[i6 0,i6 0,i6 0,i6 0,i6 0] 77
abbrev J6(w75:World):=bk (w75.heap.size+2) #[i6 3,i6 0,i6 0,i6 0,i6 0] 77
abbrev Ap(w75:World):=bk (w75.heap.size+2) #[i6 3,i6 1,i6 0,i6 0,i6 5] 77
abbrev Aq(w75:World):=bk (w75.heap.size+4) #[i6 3,i6 1,i6 0,i6 0,i6 5] 77
abbrev Aw(w75:World):=bk (w75.heap.size+1) #[i6 3,i6 1,i6 0,i6 0,i6 5] 77
abbrev Az(w75:World):=bk (w75.heap.size+7) #[i6 3,i6 1,i6 0,i6 0,i6 5] 77
abbrev Bg(w142:World)(nm:Nat→ByteArray):=bk (w142.heap.size+3) #[.string (nm 19),i6 6,i6 1] 108
abbrev Bj(w142:World)(nm:Nat→ByteArray):=bk (w142.heap.size+5) #[.string (nm 19),i6 6,i6 1] 108
abbrev Bl(w142:World)(nm:Nat→ByteArray):=bk (w142.heap.size+6) #[.string (nm 19),i6 6,i6 1] 108
abbrev AC(w75:World)(nm:Nat→ByteArray):=bk (w75.heap.size+10) #[.string (nm 3),i6 5,i6 1] 108
abbrev Ak(w75:World)(nm:Nat→ByteArray):=bk (w75.heap.size+3) #[.string (nm 3),i6 5,i6 1] 108
abbrev Ar(w75:World)(nm:Nat→ByteArray):=bk (w75.heap.size+5) #[.string (nm 3),i6 5,i6 1] 108
abbrev Au(w75:World)(nm:Nat→ByteArray):=bk (w75.heap.size+6) #[.string (nm 3),i6 5,i6 1] 108
abbrev LQ(w192:World):=bk (w192.heap.size+1) #[i6 0,i6 0,i6 0] 60
abbrev D8(w192:World):=bk (w192.heap.size+1) #[i6 1,i6 3,i6 1] 60
abbrev Ll(w34:World):=bk (w34.heap.size+1) #[i6 0,i6 0,i6 0] 60
abbrev Ah(w34:World):=bk (w34.heap.size+1) #[i6 0,i6 2,i6 7] 60
abbrev FK(w233:World)(nm:Nat→ByteArray):Ch:= .blk w233.heap.size (.cells #[.string (nm 19),i6 6,i6 1] 108 (0,0)) true
abbrev AY(w135:World):Ch:= .blk w135.heap.size (.cells #[i6 0,i6 2,i6 7] 60 (0,0)) true
abbrev Ip(w192:World):Ch:= .blk w192.heap.size (.cells #[i6 0,i6 0,i6 0] 60 (0,0)) true
abbrev DR(w192:World):Ch:= .blk w192.heap.size (.cells #[i6 1,i6 3,i6 1] 60 (0,0)) true
abbrev Gv(w34:World):Ch:= .blk w34.heap.size (.cells #[i6 0,i6 0,i6 0] 60 (0,0)) true
abbrev Ai(w34:World):Ch:= .blk w34.heap.size (.cells #[i6 0,i6 2,i6 7] 60 (0,0)) true
abbrev Ae(n9 b11 cp8:Nat):=bk n9 #[.slice (some ⟨b11,0,none⟩) 64 cp8] 66
abbrev Bf(w142:World):Ch:= .blk w142.heap.size (.cells #[.int .u32 1283457040] 24 (0,0)) true
abbrev Aj(w75:World):Ch:= .blk w75.heap.size (.cells #[.int .u32 205520901] 24 (0,0)) true
abbrev Ad(z:Nat):=Dn z 24 1 (fun x:Int=>[Value.int .u32 x]) (.slice (some ⟨z,0,none⟩) 64 64) (((((((((List.replicate 64 0).set 0 2147483656).set 16 2147483671).set 17 2147483673).set 32 205520901).set 33 1283457040).set 34 1346371600).set 35 2013265926).set 48 77)
abbrev Ac(z b11 cp8:Nat):=Dn z 24 1 (fun x:Int=>[Value.int .u32 x]) (.slice (some ⟨b11,0,none⟩) 64 cp8) Je
abbrev J9  : Nat×Value:=(66,.agg #[.func (.func 39) #[] #[],.func (.func 40) #[] #[],.func (.func 41) #[] #[],.func (.func 42) #[] #[],.func (.func 43) #[] #[],.func (.func 39) #[] #[],.func (.func 39) #[] #[],.func (.func 39) #[] #[],.func (.func 39) #[] #[],.func (.func 39) #[] #[],.func (.func 39) #[] #[],.func (.func 39) #[] #[],.func (.func 39) #[] #[],.func (.func 39) #[] #[],.func (.func 39) #[] #[],.func (.func 39) #[] #[],.func (.func 39) #[] #[],.func (.func 39) #[] #[],.func (.func 44) #[] #[],.func (.func 45) #[] #[],.func (.func 46) #[] #[],.func (.func 47) #[] #[],.func (.func 47) #[] #[],.func (.func 47) #[] #[],.func (.func 47) #[] #[],.func (.func 47) #[] #[],.func (.func 48) #[] #[],.func (.func 49) #[] #[],.func (.func 50) #[] #[],.func (.func 51) #[] #[],.func (.func 52) #[] #[]])
abbrev Gz(w142:World):KJ:=(4,.func (.func 58) #[] #[pt w142.heap.size])
abbrev Ih(w75:World):KJ:=(4,.func (.func 58) #[] #[pt w75.heap.size])
abbrev Du(w75:World):=(10,pt (w75.heap.size+13))
abbrev Dv(w24:World):=(10,pt (w24.heap.size+2))
abbrev Dk(w75:World):=(8,pt (w75.heap.size+12))
abbrev Ce(w75:World):=(0,pt (w75.heap.size+13))
abbrev EZ(w142:World):=(2,pt (w142.heap.size+1))
abbrev FC(w142:World):=(5,pt (w142.heap.size+2))
abbrev Eu(w142:World):=(1,pt (w142.heap.size+4))
abbrev BK(w142:World):=(0,pt (w142.heap.size+8))
abbrev BP(w142:World):=(1,pt (w142.heap.size+9))
abbrev G5(w192:World):=(6,pt (w192.heap.size+1))
abbrev Df(w24:World):=(8,pt (w24.heap.size+1))
abbrev CS(w24:World):=(0,pt (w24.heap.size+2))
abbrev FD(w75:World):=(2,pt (w75.heap.size+1))
abbrev EF(w75:World):=(1,pt (w75.heap.size+4))
abbrev BL(w75:World):=(0,pt (w75.heap.size+8))
abbrev BO(w75:World):=(1,pt (w75.heap.size+9))
abbrev FI(w142:World):=(1,pt w142.heap.size)
abbrev DL(w192:World):=(8,pt w192.heap.size)
abbrev Cf(w24:World):=(0,pt w24.heap.size)
abbrev DJ(w34:World):=(8,pt w34.heap.size)
abbrev Em(z:Nat):KJ:=(1,.slice (some ⟨z,0,none⟩) 64 64)
abbrev C9(n9:Nat):=(0,pt n9)
abbrev EX(n9:Nat):=(9,pt n9)
abbrev E8(n9:Nat):=(7,pt n9)
abbrev J3(w:World)(z b11:Nat)(cp8 n9 c18:Nat)(F232:Nat→Prop)(t22:Nat)(F225:Nat→Prop)(w24 w34 w75:World)(nm:Nat→ByteArray)(w135 w142:World)(w192 w233:World):=[(A8 w),(Ad z),(Ac z b11 cp8),(Ae n9 b11 cp8),(Ca.Am c18 F232 (Ca.put (Ca.put (Ca.put (fun _=>[]) (((32:Int) / 4 % 4).toNat) (Ca.touch ((fun _=>[]) (((32:Int) / 4 % 4).toNat)) ((32:Int) / 4))) (((33:Int) / 4 % 4).toNat) (Ca.touch ((Ca.put (fun _=>[]) (((32:Int) / 4 % 4).toNat) (Ca.touch ((fun _=>[]) (((32:Int) / 4 % 4).toNat)) ((32:Int) / 4))) (((33:Int) / 4 % 4).toNat)) ((33:Int) / 4))) (((48:Int) / 4 % 4).toNat) (Ca.touch ((Ca.put (Ca.put (fun _=>[]) (((32:Int) / 4 % 4).toNat) (Ca.touch ((fun _=>[]) (((32:Int) / 4 % 4).toNat)) ((32:Int) / 4))) (((33:Int) / 4 % 4).toNat) (Ca.touch ((Ca.put (fun _=>[]) (((32:Int) / 4 % 4).toNat) (Ca.touch ((fun _=>[]) (((32:Int) / 4 % 4).toNat)) ((32:Int) / 4))) (((33:Int) / 4 % 4).toNat)) ((33:Int) / 4))) (((48:Int) / 4 % 4).toNat)) ((48:Int) / 4)))),(Tl.AA t22 F225 (AO [(⟨0,2,7⟩:Ag),(⟨1,3,1⟩:Ag)])),(Ib w24 c18 t22),(AQ w24),(AP w24 n9),(Ai w34),(Ah w34),(Aj w75),(Aw w75),(Ap w75),(Ak w75 nm),(Aq w75),(Ar w75 nm),(Au w75 nm),(Az w75),(Be w75),(Bd w75),(AC w75 nm),(AV w75),(Iq w75),(HY w75 w24 n9),(AY w135),(Bf w142),(Bq w142),(Bh w142),(Bg w142 nm),(Bi w142),(Bj w142 nm),(Bl w142 nm),(Bv w142),(Dq w142),(Dt w142),(DR w192),(D8 w192),(FK w233 nm),(Jv w233)]
abbrev J8(w:World)(z b11:Nat)(cp8 n9 c18:Nat)(F232:Nat→Prop)(t22:Nat)(F225:Nat→Prop)(w24 w34 w75:World)(nm:Nat→ByteArray)(w135 w142:World)(w192 w233:World):=[(A8 w),(Ad z),(Ac z b11 cp8),(Ae n9 b11 cp8),(Ca.Am c18 F232 (Ca.put (Ca.put (Ca.put (fun _=>[]) (((32:Int) / 4 % 4).toNat) (Ca.touch ((fun _=>[]) (((32:Int) / 4 % 4).toNat)) ((32:Int) / 4))) (((33:Int) / 4 % 4).toNat) (Ca.touch ((Ca.put (fun _=>[]) (((32:Int) / 4 % 4).toNat) (Ca.touch ((fun _=>[]) (((32:Int) / 4 % 4).toNat)) ((32:Int) / 4))) (((33:Int) / 4 % 4).toNat)) ((33:Int) / 4))) (((48:Int) / 4 % 4).toNat) (Ca.touch ((Ca.put (Ca.put (fun _=>[]) (((32:Int) / 4 % 4).toNat) (Ca.touch ((fun _=>[]) (((32:Int) / 4 % 4).toNat)) ((32:Int) / 4))) (((33:Int) / 4 % 4).toNat) (Ca.touch ((Ca.put (fun _=>[]) (((32:Int) / 4 % 4).toNat) (Ca.touch ((fun _=>[]) (((32:Int) / 4 % 4).toNat)) ((32:Int) / 4))) (((33:Int) / 4 % 4).toNat)) ((33:Int) / 4))) (((48:Int) / 4 % 4).toNat)) ((48:Int) / 4)))),(Tl.AA t22 F225 (AO [(⟨0,2,7⟩:Ag),(⟨1,3,1⟩:Ag)])),(AX w24 c18 t22),(AQ w24),(AP w24 n9),(Ai w34),(Ah w34),(Aj w75),(Aw w75),(Ap w75),(Ak w75 nm),(Aq w75),(Ar w75 nm),(Au w75 nm),(Az w75),(Be w75),(Bd w75),(AC w75 nm),(AV w75),(Ba w75),(HY w75 w24 n9),(AY w135),(Bf w142),(Bq w142),(Bh w142),(Bg w142 nm),(Bi w142),(Bj w142 nm),(Bl w142 nm),(Bv w142),(Dq w142),(Dt w142),(DR w192),(D8 w192),(FK w233 nm)]
abbrev Iu(w:World)(z b11:Nat)(cp8 n9 c18:Nat)(F232:Nat→Prop)(t22:Nat)(F225:Nat→Prop)(w24 w34 w75:World)(nm:Nat→ByteArray)(w135 w142 w192:World):=[(A8 w),(Ad z),(Ac z b11 cp8),(Ae n9 b11 cp8),(Ca.Am c18 F232 (Ca.put (Ca.put (Ca.put (fun _=>[]) (((32:Int) / 4 % 4).toNat) (Ca.touch ((fun _=>[]) (((32:Int) / 4 % 4).toNat)) ((32:Int) / 4))) (((33:Int) / 4 % 4).toNat) (Ca.touch ((Ca.put (fun _=>[]) (((32:Int) / 4 % 4).toNat) (Ca.touch ((fun _=>[]) (((32:Int) / 4 % 4).toNat)) ((32:Int) / 4))) (((33:Int) / 4 % 4).toNat)) ((33:Int) / 4))) (((48:Int) / 4 % 4).toNat) (Ca.touch ((Ca.put (Ca.put (fun _=>[]) (((32:Int) / 4 % 4).toNat) (Ca.touch ((fun _=>[]) (((32:Int) / 4 % 4).toNat)) ((32:Int) / 4))) (((33:Int) / 4 % 4).toNat) (Ca.touch ((Ca.put (fun _=>[]) (((32:Int) / 4 % 4).toNat) (Ca.touch ((fun _=>[]) (((32:Int) / 4 % 4).toNat)) ((32:Int) / 4))) (((33:Int) / 4 % 4).toNat)) ((33:Int) / 4))) (((48:Int) / 4 % 4).toNat)) ((48:Int) / 4)))),(Tl.AA t22 F225 (AO [(⟨0,2,7⟩:Ag),(⟨1,3,1⟩:Ag)])),(AX w24 c18 t22),(AQ w24),(AP w24 n9),(Ai w34),(Ah w34),(Aj w75),(Aw w75),(Ap w75),(Ak w75 nm),(Aq w75),(Ar w75 nm),(Au w75 nm),(Az w75),(Be w75),(Bd w75),(AC w75 nm),(AV w75),(Ba w75),(LV w75 w24 n9),(AY w135),(Bf w142),(Bq w142),(Bh w142),(Bg w142 nm),(Bi w142),(Bj w142 nm),(Bl w142 nm),(Bv w142),(Dq w142),(Dt w142),(DR w192),(D8 w192)]
abbrev Io(w:World)(z b11:Nat)(cp8 n9 c18:Nat)(F232:Nat→Prop)(t22:Nat)(F225:Nat→Prop)(w24 w34 w75:World)(nm:Nat→ByteArray)(w135 w142 w192:World):=[(A8 w),(Ad z),(Ac z b11 cp8),(Ae n9 b11 cp8),(Ca.Am c18 F232 (Ca.put (Ca.put (Ca.put (fun _=>[]) (((32:Int) / 4 % 4).toNat) (Ca.touch ((fun _=>[]) (((32:Int) / 4 % 4).toNat)) ((32:Int) / 4))) (((33:Int) / 4 % 4).toNat) (Ca.touch ((Ca.put (fun _=>[]) (((32:Int) / 4 % 4).toNat) (Ca.touch ((fun _=>[]) (((32:Int) / 4 % 4).toNat)) ((32:Int) / 4))) (((33:Int) / 4 % 4).toNat)) ((33:Int) / 4))) (((48:Int) / 4 % 4).toNat) (Ca.touch ((Ca.put (Ca.put (fun _=>[]) (((32:Int) / 4 % 4).toNat) (Ca.touch ((fun _=>[]) (((32:Int) / 4 % 4).toNat)) ((32:Int) / 4))) (((33:Int) / 4 % 4).toNat) (Ca.touch ((Ca.put (fun _=>[]) (((32:Int) / 4 % 4).toNat) (Ca.touch ((fun _=>[]) (((32:Int) / 4 % 4).toNat)) ((32:Int) / 4))) (((33:Int) / 4 % 4).toNat)) ((33:Int) / 4))) (((48:Int) / 4 % 4).toNat)) ((48:Int) / 4)))),(Tl.AA t22 F225 (AO [(⟨0,2,7⟩:Ag),(⟨1,3,1⟩:Ag)])),(AX w24 c18 t22),(AQ w24),(AP w24 n9),(Ai w34),(Ah w34),(Aj w75),(Aw w75),(Ap w75),(Ak w75 nm),(Aq w75),(Ar w75 nm),(Au w75 nm),(Az w75),(Be w75),(Bd w75),(AC w75 nm),(AV w75),(Ba w75),(MF w75 w24 n9),(AY w135),(Bf w142),(Bq w142),(Bh w142),(Bg w142 nm),(Bi w142),(Bj w142 nm),(Bl w142 nm),(Bv w142),(Dq w142),(Dt w142),(DR w192),(D8 w192)]
abbrev EY(w:World)(z b11:Nat)(cp8 n9 c18:Nat)(F232:Nat→Prop)(t22:Nat)(F225:Nat→Prop)(w24 w34 w75:World)(nm:Nat→ByteArray)(w135 w142 w192:World):=[(A8 w),(Ad z),(Ac z b11 cp8),(Ae n9 b11 cp8),(Ca.Am c18 F232 (Ca.put (Ca.put (Ca.put (fun _=>[]) (((32:Int) / 4 % 4).toNat) (Ca.touch ((fun _=>[]) (((32:Int) / 4 % 4).toNat)) ((32:Int) / 4))) (((33:Int) / 4 % 4).toNat) (Ca.touch ((Ca.put (fun _=>[]) (((32:Int) / 4 % 4).toNat) (Ca.touch ((fun _=>[]) (((32:Int) / 4 % 4).toNat)) ((32:Int) / 4))) (((33:Int) / 4 % 4).toNat)) ((33:Int) / 4))) (((48:Int) / 4 % 4).toNat) (Ca.touch ((Ca.put (Ca.put (fun _=>[]) (((32:Int) / 4 % 4).toNat) (Ca.touch ((fun _=>[]) (((32:Int) / 4 % 4).toNat)) ((32:Int) / 4))) (((33:Int) / 4 % 4).toNat) (Ca.touch ((Ca.put (fun _=>[]) (((32:Int) / 4 % 4).toNat) (Ca.touch ((fun _=>[]) (((32:Int) / 4 % 4).toNat)) ((32:Int) / 4))) (((33:Int) / 4 % 4).toNat)) ((33:Int) / 4))) (((48:Int) / 4 % 4).toNat)) ((48:Int) / 4)))),(Tl.AA t22 F225 (AO [(⟨0,2,7⟩:Ag),(⟨1,3,1⟩:Ag)])),(AX w24 c18 t22),(AQ w24),(AP w24 n9),(Ai w34),(Ah w34),(Aj w75),(Aw w75),(Ap w75),(Ak w75 nm),(Aq w75),(Ar w75 nm),(Au w75 nm),(Az w75),(Be w75),(Bd w75),(AC w75 nm),(AV w75),(Ba w75),(KC w75 w24 n9),(AY w135),(Bf w142),(Bq w142),(Bh w142),(Bg w142 nm),(Bi w142),(Bj w142 nm),(Bl w142 nm),(Bv w142),(Dq w142),(Dt w142),(DR w192),(D8 w192)]
abbrev Il(w:World)(z b11:Nat)(cp8 n9 c18:Nat)(F141:Nat→Prop)(t22:Nat)(F225:Nat→Prop)(w24 w34 w75:World)(nm:Nat→ByteArray)(w135 w142 w192:World):=[(A8 w),(Ad z),(Ac z b11 cp8),(Ae n9 b11 cp8),(Ca.Am c18 F141 (Ca.put (Ca.put (fun _=>[]) (((32:Int) / 4 % 4).toNat) (Ca.touch ((fun _=>[]) (((32:Int) / 4 % 4).toNat)) ((32:Int) / 4))) (((33:Int) / 4 % 4).toNat) (Ca.touch ((Ca.put (fun _=>[]) (((32:Int) / 4 % 4).toNat) (Ca.touch ((fun _=>[]) (((32:Int) / 4 % 4).toNat)) ((32:Int) / 4))) (((33:Int) / 4 % 4).toNat)) ((33:Int) / 4)))),(Tl.AA t22 F225 (AO [(⟨0,2,7⟩:Ag),(⟨1,3,1⟩:Ag)])),(AX w24 c18 t22),(AQ w24),(AP w24 n9),(Ai w34),(Ah w34),(Aj w75),(Aw w75),(Ap w75),(Ak w75 nm),(Aq w75),(Ar w75 nm),(Au w75 nm),(Az w75),(Be w75),(Bd w75),(AC w75 nm),(AV w75),(Ba w75),(FH w75 w24 n9),(AY w135),(Bf w142),(Bq w142),(Bh w142),(Bg w142 nm),(Bi w142),(Bj w142 nm),(Bl w142 nm),(Bv w142),(Dq w142),(Dt w142),(DR w192),(D8 w192)]
abbrev CX(w:World)(z b11:Nat)(cp8 n9 c18:Nat)(F141:Nat→Prop)(t22:Nat)(F191:Nat→Prop)(w24 w34 w75:World)(nm:Nat→ByteArray)(w135 w142 w192:World):=[(A8 w),(Ad z),(Ac z b11 cp8),(Ae n9 b11 cp8),(Ca.Am c18 F141 (Ca.put (Ca.put (fun _=>[]) (((32:Int) / 4 % 4).toNat) (Ca.touch ((fun _=>[]) (((32:Int) / 4 % 4).toNat)) ((32:Int) / 4))) (((33:Int) / 4 % 4).toNat) (Ca.touch ((Ca.put (fun _=>[]) (((32:Int) / 4 % 4).toNat) (Ca.touch ((fun _=>[]) (((32:Int) / 4 % 4).toNat)) ((32:Int) / 4))) (((33:Int) / 4 % 4).toNat)) ((33:Int) / 4)))),(Tl.AA t22 F191 (AO [(⟨0,2,7⟩:Ag)])),(AX w24 c18 t22),(AQ w24),(AP w24 n9),(Ai w34),(Ah w34),(Aj w75),(Aw w75),(Ap w75),(Ak w75 nm),(Aq w75),(Ar w75 nm),(Au w75 nm),(Az w75),(Be w75),(Bd w75),(AC w75 nm),(AV w75),(Ba w75),(FH w75 w24 n9),(AY w135),(Bf w142),(Bq w142),(Bh w142),(Bg w142 nm),(Bi w142),(Bj w142 nm),(Bl w142 nm),(Bv w142),(Dq w142),(Dt w142),(Ip w192),(LQ w192)]
abbrev Jf(w:World)(z b11:Nat)(cp8 n9 c18:Nat)(F141:Nat→Prop)(t22:Nat)(F191:Nat→Prop)(w24 w34 w75:World)(nm:Nat→ByteArray)(w135 w142 w192:World):=[(A8 w),(Ad z),(Ac z b11 cp8),(Ae n9 b11 cp8),(Ca.Am c18 F141 (Ca.put (Ca.put (fun _=>[]) (((32:Int) / 4 % 4).toNat) (Ca.touch ((fun _=>[]) (((32:Int) / 4 % 4).toNat)) ((32:Int) / 4))) (((33:Int) / 4 % 4).toNat) (Ca.touch ((Ca.put (fun _=>[]) (((32:Int) / 4 % 4).toNat) (Ca.touch ((fun _=>[]) (((32:Int) / 4 % 4).toNat)) ((32:Int) / 4))) (((33:Int) / 4 % 4).toNat)) ((33:Int) / 4)))),(Tl.AA t22 F191 (AO [(⟨0,2,7⟩:Ag)])),(AX w24 c18 t22),(AQ w24),(AP w24 n9),(Ai w34),(Ah w34),(Aj w75),(Aw w75),(Ap w75),(Ak w75 nm),(Aq w75),(Ar w75 nm),(Au w75 nm),(Az w75),(Be w75),(Bd w75),(AC w75 nm),(AV w75),(Ba w75),(FH w75 w24 n9),(AY w135),(Bf w142),(Bq w142),(Bh w142),(Bg w142 nm),(Bi w142),(Bj w142 nm),(Bl w142 nm),(Bv w142),(Dq w142),(Dt w142),(DR w192),(D8 w192)]
abbrev Jj(w:World)(z b11:Nat)(cp8 n9 c18:Nat)(F141:Nat→Prop)(t22:Nat)(F191:Nat→Prop)(w24 w34 w75:World)(nm:Nat→ByteArray)(w135 w142 w192:World):=[(A8 w),(Ad z),(Ac z b11 cp8),(Ae n9 b11 cp8),(Ca.Am c18 F141 (Ca.put (Ca.put (fun _=>[]) (((32:Int) / 4 % 4).toNat) (Ca.touch ((fun _=>[]) (((32:Int) / 4 % 4).toNat)) ((32:Int) / 4))) (((33:Int) / 4 % 4).toNat) (Ca.touch ((Ca.put (fun _=>[]) (((32:Int) / 4 % 4).toNat) (Ca.touch ((fun _=>[]) (((32:Int) / 4 % 4).toNat)) ((32:Int) / 4))) (((33:Int) / 4 % 4).toNat)) ((33:Int) / 4)))),(Tl.AA t22 F191 (AO [(⟨0,2,7⟩:Ag)])),(AX w24 c18 t22),(AQ w24),(AP w24 n9),(Ai w34),(Ah w34),(Aj w75),(Aw w75),(Ap w75),(Ak w75 nm),(Aq w75),(Ar w75 nm),(Au w75 nm),(Az w75),(Be w75),(Bd w75),(AC w75 nm),(AV w75),(Ba w75),(FH w75 w24 n9),(AY w135),(Bf w142),(Bq w142),(Bh w142),(Bg w142 nm),(Bi w142),(Bj w142 nm),(Bl w142 nm),(Bv w142),(Dq w142),(Dt w142),(Ip w192)]
abbrev Ez(w:World)(z b11:Nat)(cp8 n9 c18:Nat)(F141:Nat→Prop)(t22:Nat)(F134:Nat→Prop)(w24 w34 w75:World)(nm:Nat→ByteArray)(w135 w142:World):=[(A8 w),(Ad z),(Ac z b11 cp8),(Ae n9 b11 cp8),(Ca.Am c18 F141 (Ca.put (Ca.put (fun _=>[]) (((32:Int) / 4 % 4).toNat) (Ca.touch ((fun _=>[]) (((32:Int) / 4 % 4).toNat)) ((32:Int) / 4))) (((33:Int) / 4 % 4).toNat) (Ca.touch ((Ca.put (fun _=>[]) (((32:Int) / 4 % 4).toNat) (Ca.touch ((fun _=>[]) (((32:Int) / 4 % 4).toNat)) ((32:Int) / 4))) (((33:Int) / 4 % 4).toNat)) ((33:Int) / 4)))),(Tl.AA t22 F134 (AO [(⟨0,2,7⟩:Ag)])),(AX w24 c18 t22),(AQ w24),(AP w24 n9),(Ai w34),(Ah w34),(Aj w75),(Aw w75),(Ap w75),(Ak w75 nm),(Aq w75),(Ar w75 nm),(Au w75 nm),(Az w75),(Be w75),(Bd w75),(AC w75 nm),(AV w75),(Ba w75),(BR w75 w24 n9),(AY w135),(Bf w142),(Bq w142),(Bh w142),(Bg w142 nm),(Bi w142),(Bj w142 nm),(Bl w142 nm),(Bv w142),(Dq w142),(Dt w142)]
abbrev Hw(w:World)(z b11:Nat)(cp8 n9 c18:Nat)(F141:Nat→Prop)(t22:Nat)(F134:Nat→Prop)(w24 w34 w75:World)(nm:Nat→ByteArray)(w135 w142:World):=[(A8 w),(Ad z),(Ac z b11 cp8),(Ae n9 b11 cp8),(Ca.Am c18 F141 (Ca.put (Ca.put (fun _=>[]) (((32:Int) / 4 % 4).toNat) (Ca.touch ((fun _=>[]) (((32:Int) / 4 % 4).toNat)) ((32:Int) / 4))) (((33:Int) / 4 % 4).toNat) (Ca.touch ((Ca.put (fun _=>[]) (((32:Int) / 4 % 4).toNat) (Ca.touch ((fun _=>[]) (((32:Int) / 4 % 4).toNat)) ((32:Int) / 4))) (((33:Int) / 4 % 4).toNat)) ((33:Int) / 4)))),(Tl.AA t22 F134 (AO [(⟨0,2,7⟩:Ag)])),(AX w24 c18 t22),(AQ w24),(AP w24 n9),(Ai w34),(Ah w34),(Aj w75),(Aw w75),(Ap w75),(Ak w75 nm),(Aq w75),(Ar w75 nm),(Au w75 nm),(Az w75),(Be w75),(Bd w75),(AC w75 nm),(AV w75),(Ba w75),(BR w75 w24 n9),(AY w135),(Bf w142),(Bq w142),(Bh w142),(Bg w142 nm),(Bi w142),(Bj w142 nm),(Bl w142 nm),(Bv w142)]
abbrev Fp(w:World)(z b11:Nat)(cp8 n9 c18:Nat)(F141:Nat→Prop)(t22:Nat)(F134:Nat→Prop)(w24 w34 w75:World)(nm:Nat→ByteArray)(w135 w142:World):=[(A8 w),(Ad z),(Ac z b11 cp8),(Ae n9 b11 cp8),(Ca.Am c18 F141 (Ca.put (Ca.put (fun _=>[]) (((32:Int) / 4 % 4).toNat) (Ca.touch ((fun _=>[]) (((32:Int) / 4 % 4).toNat)) ((32:Int) / 4))) (((33:Int) / 4 % 4).toNat) (Ca.touch ((Ca.put (fun _=>[]) (((32:Int) / 4 % 4).toNat) (Ca.touch ((fun _=>[]) (((32:Int) / 4 % 4).toNat)) ((32:Int) / 4))) (((33:Int) / 4 % 4).toNat)) ((33:Int) / 4)))),(Tl.AA t22 F134 (AO [(⟨0,2,7⟩:Ag)])),(AX w24 c18 t22),(AQ w24),(AP w24 n9),(Ai w34),(Ah w34),(Aj w75),(Aw w75),(Ap w75),(Ak w75 nm),(Aq w75),(Ar w75 nm),(Au w75 nm),(Az w75),(Be w75),(Bd w75),(AC w75 nm),(AV w75),(Ba w75),(Ed w75 w24 n9),(AY w135),(Bf w142),(EG w142),(Bh w142),(Bg w142 nm),(Bi w142),(Bj w142 nm),(Bl w142 nm)]
abbrev FP(w:World)(z b11:Nat)(cp8 n9 c18:Nat)(F141:Nat→Prop)(t22:Nat)(F134:Nat→Prop)(w24 w34 w75:World)(nm:Nat→ByteArray)(w135 w142:World):=[(A8 w),(Ad z),(Ac z b11 cp8),(Ae n9 b11 cp8),(Ca.Am c18 F141 (Ca.put (Ca.put (fun _=>[]) (((32:Int) / 4 % 4).toNat) (Ca.touch ((fun _=>[]) (((32:Int) / 4 % 4).toNat)) ((32:Int) / 4))) (((33:Int) / 4 % 4).toNat) (Ca.touch ((Ca.put (fun _=>[]) (((32:Int) / 4 % 4).toNat) (Ca.touch ((fun _=>[]) (((32:Int) / 4 % 4).toNat)) ((32:Int) / 4))) (((33:Int) / 4 % 4).toNat)) ((33:Int) / 4)))),(Tl.AA t22 F134 (AO [(⟨0,2,7⟩:Ag)])),(AX w24 c18 t22),(AQ w24),(AP w24 n9),(Ai w34),(Ah w34),(Aj w75),(Aw w75),(Ap w75),(Ak w75 nm),(Aq w75),(Ar w75 nm),(Au w75 nm),(Az w75),(Be w75),(Bd w75),(AC w75 nm),(AV w75),(Ba w75),(Ed w75 w24 n9),(AY w135),(Bf w142),(EG w142),(Bh w142),(Bg w142 nm),(Bi w142),(Bj w142 nm)]
abbrev Ho(w:World)(z b11:Nat)(cp8 n9 c18:Nat)(F141:Nat→Prop)(t22:Nat)(F134:Nat→Prop)(w24 w34 w75:World)(nm:Nat→ByteArray)(w135 w142:World):=[(A8 w),(Ad z),(Ac z b11 cp8),(Ae n9 b11 cp8),(Ca.Am c18 F141 (Ca.put (Ca.put (fun _=>[]) (((32:Int) / 4 % 4).toNat) (Ca.touch ((fun _=>[]) (((32:Int) / 4 % 4).toNat)) ((32:Int) / 4))) (((33:Int) / 4 % 4).toNat) (Ca.touch ((Ca.put (fun _=>[]) (((32:Int) / 4 % 4).toNat) (Ca.touch ((fun _=>[]) (((32:Int) / 4 % 4).toNat)) ((32:Int) / 4))) (((33:Int) / 4 % 4).toNat)) ((33:Int) / 4)))),(Tl.AA t22 F134 (AO [(⟨0,2,7⟩:Ag)])),(AX w24 c18 t22),(AQ w24),(AP w24 n9),(Ai w34),(Ah w34),(Aj w75),(Aw w75),(Ap w75),(Ak w75 nm),(Aq w75),(Ar w75 nm),(Au w75 nm),(Az w75),(Be w75),(Bd w75),(AC w75 nm),(AV w75),(Ba w75),(Ed w75 w24 n9),(AY w135),(Bf w142),(EG w142),(Bh w142),(Bg w142 nm),(Bi w142)]
abbrev GU(w:World)(z b11:Nat)(cp8 n9 c18:Nat)(F141:Nat→Prop)(t22:Nat)(F134:Nat→Prop)(w24 w34 w75:World)(nm:Nat→ByteArray)(w135 w142:World):=[(A8 w),(Ad z),(Ac z b11 cp8),(Ae n9 b11 cp8),(Ca.Am c18 F141 (Ca.put (Ca.put (fun _=>[]) (((32:Int) / 4 % 4).toNat) (Ca.touch ((fun _=>[]) (((32:Int) / 4 % 4).toNat)) ((32:Int) / 4))) (((33:Int) / 4 % 4).toNat) (Ca.touch ((Ca.put (fun _=>[]) (((32:Int) / 4 % 4).toNat) (Ca.touch ((fun _=>[]) (((32:Int) / 4 % 4).toNat)) ((32:Int) / 4))) (((33:Int) / 4 % 4).toNat)) ((33:Int) / 4)))),(Tl.AA t22 F134 (AO [(⟨0,2,7⟩:Ag)])),(AX w24 c18 t22),(AQ w24),(AP w24 n9),(Ai w34),(Ah w34),(Aj w75),(Aw w75),(Ap w75),(Ak w75 nm),(Aq w75),(Ar w75 nm),(Au w75 nm),(Az w75),(Be w75),(Bd w75),(AC w75 nm),(AV w75),(Ba w75),(Ed w75 w24 n9),(AY w135),(Bf w142),(EG w142),(J7 w142),(Bg w142 nm)]
abbrev IR(w:World)(z b11:Nat)(cp8 n9 c18:Nat)(F141:Nat→Prop)(t22:Nat)(F134:Nat→Prop)(w24 w34 w75:World)(nm:Nat→ByteArray)(w135 w142:World):=[(A8 w),(Ad z),(Ac z b11 cp8),(Ae n9 b11 cp8),(Ca.Am c18 F141 (Ca.put (Ca.put (fun _=>[]) (((32:Int) / 4 % 4).toNat) (Ca.touch ((fun _=>[]) (((32:Int) / 4 % 4).toNat)) ((32:Int) / 4))) (((33:Int) / 4 % 4).toNat) (Ca.touch ((Ca.put (fun _=>[]) (((32:Int) / 4 % 4).toNat) (Ca.touch ((fun _=>[]) (((32:Int) / 4 % 4).toNat)) ((32:Int) / 4))) (((33:Int) / 4 % 4).toNat)) ((33:Int) / 4)))),(Tl.AA t22 F134 (AO [(⟨0,2,7⟩:Ag)])),(AX w24 c18 t22),(AQ w24),(AP w24 n9),(Ai w34),(Ah w34),(Aj w75),(Aw w75),(Ap w75),(Ak w75 nm),(Aq w75),(Ar w75 nm),(Au w75 nm),(Az w75),(Be w75),(Bd w75),(AC w75 nm),(AV w75),(Ba w75),(Ed w75 w24 n9),(AY w135),(Bf w142),(EG w142),(LP w142),(Bg w142 nm)]
abbrev IM(w:World)(z b11:Nat)(cp8 n9 c18:Nat)(F141:Nat→Prop)(t22:Nat)(F134:Nat→Prop)(w24 w34 w75:World)(nm:Nat→ByteArray)(w135 w142:World):=[(A8 w),(Ad z),(Ac z b11 cp8),(Ae n9 b11 cp8),(Ca.Am c18 F141 (Ca.put (Ca.put (fun _=>[]) (((32:Int) / 4 % 4).toNat) (Ca.touch ((fun _=>[]) (((32:Int) / 4 % 4).toNat)) ((32:Int) / 4))) (((33:Int) / 4 % 4).toNat) (Ca.touch ((Ca.put (fun _=>[]) (((32:Int) / 4 % 4).toNat) (Ca.touch ((fun _=>[]) (((32:Int) / 4 % 4).toNat)) ((32:Int) / 4))) (((33:Int) / 4 % 4).toNat)) ((33:Int) / 4)))),(Tl.AA t22 F134 (AO [(⟨0,2,7⟩:Ag)])),(AX w24 c18 t22),(AQ w24),(AP w24 n9),(Ai w34),(Ah w34),(Aj w75),(Aw w75),(Ap w75),(Ak w75 nm),(Aq w75),(Ar w75 nm),(Au w75 nm),(Az w75),(Be w75),(Bd w75),(AC w75 nm),(AV w75),(Ba w75),(Ed w75 w24 n9),(AY w135),(Bf w142),(EG w142),(Bh w142),(Bg w142 nm)]
abbrev Ht(w:World)(z b11:Nat)(cp8 n9 c18:Nat)(F141:Nat→Prop)(t22:Nat)(F134:Nat→Prop)(w24 w34 w75:World)(nm:Nat→ByteArray)(w135 w142:World):=[(A8 w),(Ad z),(Ac z b11 cp8),(Ae n9 b11 cp8),(Ca.Am c18 F141 (Ca.put (Ca.put (fun _=>[]) (((32:Int) / 4 % 4).toNat) (Ca.touch ((fun _=>[]) (((32:Int) / 4 % 4).toNat)) ((32:Int) / 4))) (((33:Int) / 4 % 4).toNat) (Ca.touch ((Ca.put (fun _=>[]) (((32:Int) / 4 % 4).toNat) (Ca.touch ((fun _=>[]) (((32:Int) / 4 % 4).toNat)) ((32:Int) / 4))) (((33:Int) / 4 % 4).toNat)) ((33:Int) / 4)))),(Tl.AA t22 F134 (AO [(⟨0,2,7⟩:Ag)])),(AX w24 c18 t22),(AQ w24),(AP w24 n9),(Ai w34),(Ah w34),(Aj w75),(Aw w75),(Ap w75),(Ak w75 nm),(Aq w75),(Ar w75 nm),(Au w75 nm),(Az w75),(Be w75),(Bd w75),(AC w75 nm),(AV w75),(Ba w75),(Ed w75 w24 n9),(AY w135),(Bf w142),(EG w142),(J7 w142)]
abbrev Hr(w:World)(z b11:Nat)(cp8 n9 c18:Nat)(F141:Nat→Prop)(t22:Nat)(F134:Nat→Prop)(w24 w34 w75:World)(nm:Nat→ByteArray)(w135:World):=[(A8 w),(Ad z),(Ac z b11 cp8),(Ae n9 b11 cp8),(Ca.Am c18 F141 (Ca.put (Ca.put (fun _=>[]) (((32:Int) / 4 % 4).toNat) (Ca.touch ((fun _=>[]) (((32:Int) / 4 % 4).toNat)) ((32:Int) / 4))) (((33:Int) / 4 % 4).toNat) (Ca.touch ((Ca.put (fun _=>[]) (((32:Int) / 4 % 4).toNat) (Ca.touch ((fun _=>[]) (((32:Int) / 4 % 4).toNat)) ((32:Int) / 4))) (((33:Int) / 4 % 4).toNat)) ((33:Int) / 4)))),(Tl.AA t22 F134 (AO [(⟨0,2,7⟩:Ag)])),(AX w24 c18 t22),(AQ w24),(AP w24 n9),(Ai w34),(Ah w34),(Aj w75),(Aw w75),(Ap w75),(Ak w75 nm),(Aq w75),(Ar w75 nm),(Au w75 nm),(Az w75),(Be w75),(Bd w75),(AC w75 nm),(AV w75),(Ba w75),(Ls w75 w24 n9),(AY w135)]
abbrev Jc(w:World)(z b11:Nat)(cp8 n9 c18:Nat)(F141:Nat→Prop)(t22:Nat)(F134:Nat→Prop)(w24 w34 w75:World)(nm:Nat→ByteArray)(w135:World):=[(A8 w),(Ad z),(Ac z b11 cp8),(Ae n9 b11 cp8),(Ca.Am c18 F141 (Ca.put (Ca.put (fun _=>[]) (((32:Int) / 4 % 4).toNat) (Ca.touch ((fun _=>[]) (((32:Int) / 4 % 4).toNat)) ((32:Int) / 4))) (((33:Int) / 4 % 4).toNat) (Ca.touch ((Ca.put (fun _=>[]) (((32:Int) / 4 % 4).toNat) (Ca.touch ((fun _=>[]) (((32:Int) / 4 % 4).toNat)) ((32:Int) / 4))) (((33:Int) / 4 % 4).toNat)) ((33:Int) / 4)))),(Tl.AA t22 F134 (AO [(⟨0,2,7⟩:Ag)])),(AX w24 c18 t22),(AQ w24),(AP w24 n9),(Ai w34),(Ah w34),(Aj w75),(Aw w75),(Ap w75),(Ak w75 nm),(Aq w75),(Ar w75 nm),(Au w75 nm),(Az w75),(Be w75),(Bd w75),(AC w75 nm),(AV w75),(Ba w75),(Ed w75 w24 n9),(AY w135)]
abbrev Hg(w:World)(z b11:Nat)(cp8 n9 c18:Nat)(F74:Nat→Prop)(t22:Nat)(F134:Nat→Prop)(w24 w34 w75:World)(nm:Nat→ByteArray)(w135:World):=[(A8 w),(Ad z),(Ac z b11 cp8),(Ae n9 b11 cp8),(Ca.Am c18 F74 (Ca.put (fun _=>[]) (((32:Int) / 4 % 4).toNat) (Ca.touch ((fun _=>[]) (((32:Int) / 4 % 4).toNat)) ((32:Int) / 4)))),(Tl.AA t22 F134 (AO [(⟨0,2,7⟩:Ag)])),(AX w24 c18 t22),(AQ w24),(AP w24 n9),(Ai w34),(Ah w34),(Aj w75),(Aw w75),(Ap w75),(Ak w75 nm),(Aq w75),(Ar w75 nm),(Au w75 nm),(Az w75),(Be w75),(Bd w75),(AC w75 nm),(AV w75),(Ba w75),(Jw w75 w24 n9),(AY w135)]
abbrev FV(w:World)(z b11:Nat)(cp8 n9 c18:Nat)(F74:Nat→Prop)(t22:Nat)(F67:Nat→Prop)(w24 w34 w75:World)(nm:Nat→ByteArray):=[(A8 w),(Ad z),(Ac z b11 cp8),(Ae n9 b11 cp8),(Ca.Am c18 F74 (Ca.put (fun _=>[]) (((32:Int) / 4 % 4).toNat) (Ca.touch ((fun _=>[]) (((32:Int) / 4 % 4).toNat)) ((32:Int) / 4)))),(Tl.AA t22 F67 (AO [(⟨0,2,7⟩:Ag)])),(AX w24 c18 t22),(AQ w24),(AP w24 n9),(Ai w34),(Ah w34),(Aj w75),(Aw w75),(Ap w75),(Ak w75 nm),(Aq w75),(Ar w75 nm),(Au w75 nm),(Az w75),(Be w75),(Bd w75),(AC w75 nm),(AV w75),(Ba w75),(Jw w75 w24 n9)]
abbrev IY(w:World)(z b11:Nat)(cp8 n9 c18:Nat)(F74:Nat→Prop)(t22:Nat)(F67:Nat→Prop)(w24 w34 w75:World)(nm:Nat→ByteArray):=[(A8 w),(Ad z),(Ac z b11 cp8),(Ae n9 b11 cp8),(Ca.Am c18 F74 (Ca.put (fun _=>[]) (((32:Int) / 4 % 4).toNat) (Ca.touch ((fun _=>[]) (((32:Int) / 4 % 4).toNat)) ((32:Int) / 4)))),(Tl.AA t22 F67 (AO [(⟨0,2,7⟩:Ag)])),(AX w24 c18 t22),(AQ w24),(AP w24 n9),(Ai w34),(Ah w34),(Aj w75),(Aw w75),(Ap w75),(Ak w75 nm),(Aq w75),(Ar w75 nm),(Au w75 nm),(Az w75),(Be w75),(Bd w75),(AC w75 nm),(AV w75),(Ba w75)]
abbrev IQ(w:World)(z b11:Nat)(cp8 n9 c18:Nat)(F74:Nat→Prop)(t22:Nat)(F67:Nat→Prop)(w24 w34 w75:World)(nm:Nat→ByteArray):=[(A8 w),(Ad z),(Ac z b11 cp8),(Ae n9 b11 cp8),(Ca.Am c18 F74 (Ca.put (fun _=>[]) (((32:Int) / 4 % 4).toNat) (Ca.touch ((fun _=>[]) (((32:Int) / 4 % 4).toNat)) ((32:Int) / 4)))),(Tl.AA t22 F67 (AO [(⟨0,2,7⟩:Ag)])),(AX w24 c18 t22),(AQ w24),(AP w24 n9),(Ai w34),(Ah w34),(Aj w75),(Aw w75),(Ap w75),(Ak w75 nm),(Aq w75),(Ar w75 nm),(Au w75 nm),(Az w75),(Be w75),(Bd w75),(AC w75 nm),(AV w75)]
abbrev IW(w:World)(z b11:Nat)(cp8 n9 c18:Nat)(F74:Nat→Prop)(t22:Nat)(F67:Nat→Prop)(w24 w34 w75:World)(nm:Nat→ByteArray):=[(A8 w),(Ad z),(Ac z b11 cp8),(Ae n9 b11 cp8),(Ca.Am c18 F74 (Ca.put (fun _=>[]) (((32:Int) / 4 % 4).toNat) (Ca.touch ((fun _=>[]) (((32:Int) / 4 % 4).toNat)) ((32:Int) / 4)))),(Tl.AA t22 F67 (AO [(⟨0,2,7⟩:Ag)])),(AZ w24 c18 t22),(Bc w24),(AP w24 n9),(Ai w34),(Ah w34),(Aj w75),(Aw w75),(Ap w75),(Ak w75 nm),(Aq w75),(Ar w75 nm),(Au w75 nm),(Az w75),(Be w75),(Bd w75),(AC w75 nm)]
abbrev Fq(w:World)(z b11:Nat)(cp8 n9 c18:Nat)(F74:Nat→Prop)(t22:Nat)(F67:Nat→Prop)(w24 w34 w75:World)(nm:Nat→ByteArray):=[(A8 w),(Ad z),(Ac z b11 cp8),(Ae n9 b11 cp8),(Ca.Am c18 F74 (Ca.put (fun _=>[]) (((32:Int) / 4 % 4).toNat) (Ca.touch ((fun _=>[]) (((32:Int) / 4 % 4).toNat)) ((32:Int) / 4)))),(Tl.AA t22 F67 (AO [(⟨0,2,7⟩:Ag)])),(AZ w24 c18 t22),(Bc w24),(BJ w24 n9),(Ai w34),(Ah w34),(Aj w75),(Aw w75),(Ap w75),(Ak w75 nm),(Aq w75),(Ar w75 nm),(Au w75 nm),(Az w75),(Be w75),(Bd w75)]
abbrev Ey(w:World)(z b11:Nat)(cp8 n9 c18:Nat)(F74:Nat→Prop)(t22:Nat)(F67:Nat→Prop)(w24 w34 w75:World)(nm:Nat→ByteArray):=[(A8 w),(Ad z),(Ac z b11 cp8),(Ae n9 b11 cp8),(Ca.Am c18 F74 (Ca.put (fun _=>[]) (((32:Int) / 4 % 4).toNat) (Ca.touch ((fun _=>[]) (((32:Int) / 4 % 4).toNat)) ((32:Int) / 4)))),(Tl.AA t22 F67 (AO [(⟨0,2,7⟩:Ag)])),(AZ w24 c18 t22),(Bc w24),(Js w24 n9),(Ai w34),(Ah w34),(Aj w75),(Aw w75),(Ap w75),(Ak w75 nm),(Aq w75),(Ar w75 nm),(Au w75 nm),(Az w75),(Be w75),(Bd w75)]
abbrev Ha(w:World)(z b11:Nat)(cp8 n9 c18:Nat)(F74:Nat→Prop)(t22:Nat)(F67:Nat→Prop)(w24 w34 w75:World)(nm:Nat→ByteArray):=[(A8 w),(Ad z),(Ac z b11 cp8),(Ae n9 b11 cp8),(Ca.Am c18 F74 (Ca.put (fun _=>[]) (((32:Int) / 4 % 4).toNat) (Ca.touch ((fun _=>[]) (((32:Int) / 4 % 4).toNat)) ((32:Int) / 4)))),(Tl.AA t22 F67 (AO [(⟨0,2,7⟩:Ag)])),(AZ w24 c18 t22),(Bc w24),(BJ w24 n9),(Ai w34),(Ah w34),(Aj w75),(Aw w75),(Ap w75),(Ak w75 nm),(Aq w75),(Ar w75 nm),(Au w75 nm),(Az w75)]
abbrev Fb(w:World)(z b11:Nat)(cp8 n9 c18:Nat)(F74:Nat→Prop)(t22:Nat)(F67:Nat→Prop)(w24 w34 w75:World)(nm:Nat→ByteArray):=[(A8 w),(Ad z),(Ac z b11 cp8),(Ae n9 b11 cp8),(Ca.Am c18 F74 (Ca.put (fun _=>[]) (((32:Int) / 4 % 4).toNat) (Ca.touch ((fun _=>[]) (((32:Int) / 4 % 4).toNat)) ((32:Int) / 4)))),(Tl.AA t22 F67 (AO [(⟨0,2,7⟩:Ag)])),(AZ w24 c18 t22),(Bc w24),(Ej w24 n9),(Ai w34),(Ah w34),(Aj w75),(EW w75),(Ap w75),(Ak w75 nm),(Aq w75),(Ar w75 nm),(Au w75 nm)]
abbrev FT(w:World)(z b11:Nat)(cp8 n9 c18:Nat)(F74:Nat→Prop)(t22:Nat)(F67:Nat→Prop)(w24 w34 w75:World)(nm:Nat→ByteArray):=[(A8 w),(Ad z),(Ac z b11 cp8),(Ae n9 b11 cp8),(Ca.Am c18 F74 (Ca.put (fun _=>[]) (((32:Int) / 4 % 4).toNat) (Ca.touch ((fun _=>[]) (((32:Int) / 4 % 4).toNat)) ((32:Int) / 4)))),(Tl.AA t22 F67 (AO [(⟨0,2,7⟩:Ag)])),(AZ w24 c18 t22),(Bc w24),(Ej w24 n9),(Ai w34),(Ah w34),(Aj w75),(EW w75),(Ap w75),(Ak w75 nm),(Aq w75),(Ar w75 nm)]
abbrev Hf(w:World)(z b11:Nat)(cp8 n9 c18:Nat)(F74:Nat→Prop)(t22:Nat)(F67:Nat→Prop)(w24 w34 w75:World)(nm:Nat→ByteArray):=[(A8 w),(Ad z),(Ac z b11 cp8),(Ae n9 b11 cp8),(Ca.Am c18 F74 (Ca.put (fun _=>[]) (((32:Int) / 4 % 4).toNat) (Ca.touch ((fun _=>[]) (((32:Int) / 4 % 4).toNat)) ((32:Int) / 4)))),(Tl.AA t22 F67 (AO [(⟨0,2,7⟩:Ag)])),(AZ w24 c18 t22),(Bc w24),(Ej w24 n9),(Ai w34),(Ah w34),(Aj w75),(EW w75),(Ap w75),(Ak w75 nm),(Aq w75)]
abbrev Hu(w:World)(z b11:Nat)(cp8 n9 c18:Nat)(F74:Nat→Prop)(t22:Nat)(F67:Nat→Prop)(w24 w34 w75:World)(nm:Nat→ByteArray):=[(A8 w),(Ad z),(Ac z b11 cp8),(Ae n9 b11 cp8),(Ca.Am c18 F74 (Ca.put (fun _=>[]) (((32:Int) / 4 % 4).toNat) (Ca.touch ((fun _=>[]) (((32:Int) / 4 % 4).toNat)) ((32:Int) / 4)))),(Tl.AA t22 F67 (AO [(⟨0,2,7⟩:Ag)])),(AZ w24 c18 t22),(Bc w24),(Ej w24 n9),(Ai w34),(Ah w34),(Aj w75),(EW w75),(J6 w75),(Ak w75 nm)]
abbrev Jm(w:World)(z b11:Nat)(cp8 n9 c18:Nat)(F74:Nat→Prop)(t22:Nat)(F67:Nat→Prop)(w24 w34 w75:World)(nm:Nat→ByteArray):=[(A8 w),(Ad z),(Ac z b11 cp8),(Ae n9 b11 cp8),(Ca.Am c18 F74 (Ca.put (fun _=>[]) (((32:Int) / 4 % 4).toNat) (Ca.touch ((fun _=>[]) (((32:Int) / 4 % 4).toNat)) ((32:Int) / 4)))),(Tl.AA t22 F67 (AO [(⟨0,2,7⟩:Ag)])),(AZ w24 c18 t22),(Bc w24),(Ej w24 n9),(Ai w34),(Ah w34),(Aj w75),(EW w75),(Ap w75),(Ak w75 nm)]
abbrev GY(w:World)(z b11:Nat)(cp8 n9 c18:Nat)(F74:Nat→Prop)(t22:Nat)(F67:Nat→Prop)(w24 w34 w75:World):=[(A8 w),(Ad z),(Ac z b11 cp8),(Ae n9 b11 cp8),(Ca.Am c18 F74 (Ca.put (fun _=>[]) (((32:Int) / 4 % 4).toNat) (Ca.touch ((fun _=>[]) (((32:Int) / 4 % 4).toNat)) ((32:Int) / 4)))),(Tl.AA t22 F67 (AO [(⟨0,2,7⟩:Ag)])),(AZ w24 c18 t22),(Bc w24),(Ej w24 n9),(Ai w34),(Ah w34),(Aj w75),(EW w75),(J6 w75)]
abbrev Hl(w:World)(z b11:Nat)(cp8 n9 c18:Nat)(F74:Nat→Prop)(t22:Nat)(F67:Nat→Prop)(w24 w34:World):=[(A8 w),(Ad z),(Ac z b11 cp8),(Ae n9 b11 cp8),(Ca.Am c18 F74 (Ca.put (fun _=>[]) (((32:Int) / 4 % 4).toNat) (Ca.touch ((fun _=>[]) (((32:Int) / 4 % 4).toNat)) ((32:Int) / 4)))),(Tl.AA t22 F67 (AO [(⟨0,2,7⟩:Ag)])),(AZ w24 c18 t22),(Bc w24),(LJ w24 n9),(Ai w34),(Ah w34)]
abbrev IC(w:World)(z b11:Nat)(cp8 n9 c18:Nat)(F74:Nat→Prop)(t22:Nat)(F67:Nat→Prop)(w24 w34:World):=[(A8 w),(Ad z),(Ac z b11 cp8),(Ae n9 b11 cp8),(Ca.Am c18 F74 (Ca.put (fun _=>[]) (((32:Int) / 4 % 4).toNat) (Ca.touch ((fun _=>[]) (((32:Int) / 4 % 4).toNat)) ((32:Int) / 4)))),(Tl.AA t22 F67 (AO [(⟨0,2,7⟩:Ag)])),(AZ w24 c18 t22),(Bc w24),(Ej w24 n9),(Ai w34),(Ah w34)]
abbrev He(w:World)(z b11:Nat)(cp8 n9 c18:Nat)(F19:Nat→Prop)(t22:Nat)(F67:Nat→Prop)(w24 w34:World):=[(A8 w),(Ad z),(Ac z b11 cp8),(Ae n9 b11 cp8),(Ca.Am c18 F19 (fun _=>[])),(Tl.AA t22 F67 (AO [(⟨0,2,7⟩:Ag)])),(AZ w24 c18 t22),(Bc w24),(Ei w24 n9),(Ai w34),(Ah w34)]
abbrev CQ(w:World)(z b11:Nat)(cp8 n9 c18:Nat)(F19:Nat→Prop)(t22:Nat)(F33:Nat→Prop)(w24 w34:World):=[(A8 w),(Ad z),(Ac z b11 cp8),(Ae n9 b11 cp8),(Ca.Am c18 F19 (fun _=>[])),(Tl.AA t22 F33 (AO [])),(AZ w24 c18 t22),(Bc w24),(Ei w24 n9),(Gv w34),(Ll w34)]
abbrev FW(w:World)(z b11:Nat)(cp8 n9 c18:Nat)(F19:Nat→Prop)(t22:Nat)(F23:Nat→Prop)(w24:World):=[(A8 w),(Ad z),(Ac z b11 cp8),(Ae n9 b11 cp8),(Ca.Am c18 F19 (fun _=>[])),(Tl.AA t22 F23 (AO [])),(AZ w24 c18 t22),(Bc w24),(LU w24 n9)]
theorem Jr(w:World)(nm:Nat→ByteArray)(hL:H8 nm w):Calls Tryd.prog 7 #[] w fun e w'=>e = .returned (.bool true)∧Af (fun _=>False) w w':=by
 obtain⟨z,hz⟩:∃ z,z=w.heap.size:=⟨_,rfl⟩
 refine A7 (args:=[]) 67 ⟨w,z,[(A8 w)]⟩ Tryd.func7 rfl (by kernel_rfl) (by kernel_rfl) (Ld hz) ?_
 refine JX [] [] ?_
 refine BF 6 0 [] [[o0]] [] [] rfl Aa ?_
 refine l_call [] [] 23 #[] (some 8) Aa ?_
 intro w1 hw1
 refine A7 (args:=[]) 20 ⟨w,z,[(A8 w)]⟩ Tryd.func23 rfl (by kernel_rfl) (by kernel_rfl) hw1 ?_
 refine BF 6 0 [] [[o0]] [] [] rfl Aa ?_
 refine MJ z 64 0 (fun x:Int=>[Value.int .u32 x]) 24 1 4 (.int .u32 0) (64:Int) (64:Int) (some 2) rfl rfl (by omega) (show z≤z by omega) (fun n2 (hn3:z+1≤n2) => ?_)
 refine BI 4 2 [] [[o0],[o0,(oi 0)]] [(0:Int)=((0:Nat):Int),0<64,AU] [(Em z),(4,pt z)] rfl ⟨rfl,(by omega),rfl,Aa⟩ ?_
 refine DY 1 0 0 (List.replicate 64 0) 2147483656 (fun x:Int=>[Value.int .u32 x]) z 24 1 z 64 64 (.int .u32 2147483656) none (by exact of_decide_eq_true (by kernel_rfl)) rfl ?_
 refine BI 4 2 [] [[],[o0,(oi 16)]] [(16:Int)=((16:Nat):Int),16<64,AU] [(Em z),(6,.pointer (some ⟨z,16,none⟩))] rfl ⟨rfl,(by omega),rfl,Aa⟩ ?_
 refine DY 1 16 0 ((List.replicate 64 0).set 0 2147483656) 2147483671 (fun x:Int=>[Value.int .u32 x]) z 24 1 z 64 64 (.int .u32 2147483671) none (by exact of_decide_eq_true (by kernel_rfl)) rfl ?_
 refine BI 4 2 [] [[],[o0,(oi 17)]] [(17:Int)=((17:Nat):Int),17<64,AU] [(Em z),(8,.pointer (some ⟨z,17,none⟩))] rfl ⟨rfl,(by omega),rfl,Aa⟩ ?_
 refine DY 1 17 0 (((List.replicate 64 0).set 0 2147483656).set 16 2147483671) 2147483673 (fun x:Int=>[Value.int .u32 x]) z 24 1 z 64 64 (.int .u32 2147483673) none (by exact of_decide_eq_true (by kernel_rfl)) rfl ?_
 refine BI 4 2 [] [[],[o0,(oi 32)]] [(32:Int)=((32:Nat):Int),32<64,AU] [(Em z),(10,.pointer (some ⟨z,32,none⟩))] rfl ⟨rfl,(by omega),rfl,Aa⟩ ?_
 refine DY 1 32 0 ((((List.replicate 64 0).set 0 2147483656).set 16 2147483671).set 17 2147483673) 205520901 (fun x:Int=>[Value.int .u32 x]) z 24 1 z 64 64 (.int .u32 205520901) none (by exact of_decide_eq_true (by kernel_rfl)) rfl ?_
 refine BI 4 2 [] [[],[o0,(oi 33)]] [(33:Int)=((33:Nat):Int),33<64,AU] [(Em z),(12,.pointer (some ⟨z,33,none⟩))] rfl ⟨rfl,(by omega),rfl,Aa⟩ ?_
 refine DY 1 33 0 (((((List.replicate 64 0).set 0 2147483656).set 16 2147483671).set 17 2147483673).set 32 205520901) 1283457040 (fun x:Int=>[Value.int .u32 x]) z 24 1 z 64 64 (.int .u32 1283457040) none (by exact of_decide_eq_true (by kernel_rfl)) rfl ?_
 refine BI 4 2 [] [[],[o0,(oi 34)]] [(34:Int)=((34:Nat):Int),34<64,AU] [(Em z),(14,.pointer (some ⟨z,34,none⟩))] rfl ⟨rfl,(by omega),rfl,Aa⟩ ?_
 refine DY 1 34 0 ((((((List.replicate 64 0).set 0 2147483656).set 16 2147483671).set 17 2147483673).set 32 205520901).set 33 1283457040) 1346371600 (fun x:Int=>[Value.int .u32 x]) z 24 1 z 64 64 (.int .u32 1346371600) none (by exact of_decide_eq_true (by kernel_rfl)) rfl ?_
 refine BI 4 2 [] [[],[o0,(oi 35)]] [(35:Int)=((35:Nat):Int),35<64,AU] [(Em z),(16,.pointer (some ⟨z,35,none⟩))] rfl ⟨rfl,(by omega),rfl,Aa⟩ ?_
 refine DY 1 35 0 (((((((List.replicate 64 0).set 0 2147483656).set 16 2147483671).set 17 2147483673).set 32 205520901).set 33 1283457040).set 34 1346371600) 2013265926 (fun x:Int=>[Value.int .u32 x]) z 24 1 z 64 64 (.int .u32 2013265926) none (by exact of_decide_eq_true (by kernel_rfl)) rfl ?_
 refine BI 4 2 [] [[],[o0,(oi 48)]] [(48:Int)=((48:Nat):Int),48<64,AU] [(Em z),(18,.pointer (some ⟨z,48,none⟩))] rfl ⟨rfl,(by omega),rfl,Aa⟩ ?_
 refine DY 1 48 0 ((((((((List.replicate 64 0).set 0 2147483656).set 16 2147483671).set 17 2147483673).set 32 205520901).set 33 1283457040).set 34 1346371600).set 35 2013265926) 77 (fun x:Int=>[Value.int .u32 x]) z 24 1 z 64 64 (.int .u32 77) none (by exact of_decide_eq_true (by kernel_rfl)) rfl ?_
 refine BI 7 0 [] [[],[o0,o0]] [] [(0,.slice (some ⟨z,0,none⟩) 64 64)] rfl Aa ?_
 refine AL [] [] (.slice (some ⟨z,0,none⟩) 64 64) Aa ?_
 intro w4 hw4
 refine⟨_,_,rfl,hw4, ?_⟩
 refine Fh [8] [(8,.slice (some ⟨z,0,none⟩) 64 64)] ?_
 refine l_call [] [] 8 #[.slice (some ⟨z,0,none⟩) 64 64] (some 9) Aa ?_
 intro w5 hw5
 refine A7 (args:=[.slice (some ⟨z,0,none⟩) 64 64]) 20 ⟨w,n2,[(A8 w),(Ad z)]⟩ Tryd.func8 rfl (by kernel_rfl) (by kernel_rfl) hw5 ?_
 refine BF 22 1 [0,0] [[o0,o0],[o0,o0,o0],[o0,o0,o0,o0,o0,o0,o0,o0,o0],[o0]] [] [(16,.slice (some ⟨z,0,none⟩) 64 64)] rfl Aa ?_
 refine l_call [] [] 24 #[.slice (some ⟨z,0,none⟩) 64 64] (some 17) Aa ?_
 intro w6 hw6
 refine A7 (args:=[.slice (some ⟨z,0,none⟩) 64 64]) 8 ⟨w,n2,[(A8 w),(Ad z)]⟩ Tryd.func24 rfl (by kernel_rfl) (by kernel_rfl) hw6 ?_
 refine q_c 14 2 [0] [[o0],[o0,o0],[o0,o0]] [] [(5,.slice (some ⟨n2,0,none⟩) 0 0),(6,.slice (some ⟨z,0,none⟩) 64 64)] ⟨w,n2+1,[(A8 w),(Ad z),(bk n2 #[] 24)]⟩ rfl Aa ?_
 refine KE 2 n2 z 24 1 (fun x:Int=>[Value.int .u32 x]) ([]:List Int) #[] (by omega) (?_:Lg _ _ _ _ ⟨w,n2+1,[(A8 w),(Ad z),(Dn z 24 1 (fun x:Int=>[Value.int .u32 x]) (.slice (some ⟨n2,0,none⟩) 0 0) ([]:List Int))]⟩ _ _ _ _)
 refine L6 z 2 1 ([]:List Int) (((((((((List.replicate 64 0).set 0 2147483656).set 16 2147483671).set 17 2147483673).set 32 205520901).set 33 1283457040).set 34 1346371600).set 35 2013265926).set 48 77) (some ⟨z,0,none⟩) (fun x:Int=>[Value.int .u32 x]) 24 1 4 (.slice (some ⟨n2,0,none⟩) 0 0) 64 64 (Ad z) (some 7) (hm:=by kernel_rfl) (by exact of_decide_eq_true (by kernel_rfl)) (show z≤n2+1 by omega) (fun w' hw=>Lr (fun _=>rfl) hw (by exact of_decide_eq_true (by kernel_rfl)) (fun _ _=>trivial)) (fun ax7 cp8 n9 (hn10:n2+1≤n9) => ?_)
 rw[Kq]
 refine L9 (base:=z) (e:=24) (sz:=1) (cells:=(fun x:Int=>[Value.int .u32 x])) (a:=ax7) (n:=64) (cap:=cp8) (xs:=Je) 2 (by exact of_decide_eq_true (by kernel_rfl)) (fun b11 hg12 hb13 => ?_)
 subst hg12
 refine BI 3 0 [] [[o0]] [] [(2,.slice (some ⟨b11,0,none⟩) 64 cp8)] rfl Aa ?_
 refine AL [] [] (.slice (some ⟨b11,0,none⟩) 64 cp8) Aa ?_
 intro w14 hw14
 refine⟨_,_,rfl,hw14, ?_⟩
 refine D9 3 0 [] [[o0,o0,o0,o0]] [] [(2,pt n9),(3,i6 0)] ⟨w,n9+1,[(A8 w),(Ad z),(Ac z b11 cp8),(Ae n9 b11 cp8)]⟩ rfl Aa ?_
 refine AL [] [] (.tuple #[pt n9,i6 0]) Aa ?_
 intro w15 hw15
 refine⟨_,_,rfl,hw15, ?_⟩
 refine BI 4 0 [] [[o0,o0,o0,o0,o0]] [] [(1,pt n9),(2,i6 0)] rfl Aa ?_
 refine l_call [] [] 10 #[] (some 12) Aa ?_
 intro w16 hw16
 refine A7 (args:=[]) 5 ⟨w,n9+1,[(A8 w),(Ad z),(Ac z b11 cp8),(Ae n9 b11 cp8)]⟩ Tryd.func10 rfl (by kernel_rfl) (by kernel_rfl) hw16 ?_
 refine BF 6 0 [] [[o0]] [] [] rfl Aa ?_
 refine l_call [] [] 25 #[] (some 1) Aa ?_
 intro w17 hw17
 refine(Ca.KP hw17).mono ?_
 rintro e w20 ⟨c18,F19,rfl,hmw20,hSw20⟩
 have hnw20:n9+1≤w20.heap.size:=hmw20
 refine⟨_,_,rfl,hSw20, ?_⟩
 refine Fh [1] [(1,pt c18)] ?_
 refine l_call [] [] 26 #[] (some 2) Aa ?_
 intro w21 hw21
 refine(Tl.Lp hw21).mono ?_
 rintro e w24 ⟨t22,F23,rfl,hmw24,hSw24⟩
 have hnw24:w20.heap.size≤w24.heap.size:=hmw24
 refine⟨_,_,rfl,hSw24, ?_⟩
 refine D9 3 0 [] [[o0,o0,o0]] [] [(Cf w24)] ⟨w,w24.heap.size+1,[(A8 w),(Ad z),(Ac z b11 cp8),(Ae n9 b11 cp8),(Ca.Am c18 F19 (fun _=>[])),(Tl.AA t22 F23 (AO [])),(AZ w24 c18 t22)]⟩ rfl Aa ?_
 refine AL [] [] (pt w24.heap.size) Aa ?_
 intro w25 hw25
 refine⟨_,_,rfl,hw25, ?_⟩
 refine BI 12 2 [0] [[o0],[o0,o0,o0,o0,o0,o0,o0,o0,o0,o0],[o0,o0]] [] [(1,pt n9),(3,pt w24.heap.size),(24,pt w24.heap.size),(25,pt n9)] rfl Aa ?_
 refine l_call [] [] 12 #[pt w24.heap.size,pt n9,i6 0,.int .u32 900] (some 26) Aa ?_
 intro w26 hw26
 refine A7 (args:=[pt w24.heap.size,pt n9,i6 0,.int .u32 900]) 122 ⟨w,w24.heap.size+1,[(A8 w),(Ad z),(Ac z b11 cp8),(Ae n9 b11 cp8),(Ca.Am c18 F19 (fun _=>[])),(Tl.AA t22 F23 (AO [])),(AZ w24 c18 t22)]⟩ Tryd.func12 rfl (by kernel_rfl) (by kernel_rfl) hw26 ?_
 refine q_c 15 5 [0] [[o0,o0],[o0,o0,o0,o0,o0,o0],[o0,o0,o0,o0,o0]] [] [(Cf w24),(1,pt n9),(2,i6 0),(3,.int .u32 900),(Df w24),(21,.bool false),(22,i6 0),(23,pt n9)] ⟨w,w24.heap.size+2,[(A8 w),(Ad z),(Ac z b11 cp8),(Ae n9 b11 cp8),(Ca.Am c18 F19 (fun _=>[])),(Tl.AA t22 F23 (AO [])),(AZ w24 c18 t22),(Bc w24)]⟩ rfl Aa ?_
 refine l_call [] [] 13 #[pt n9] (some 24) Aa ?_
 intro w27 hw27
 refine A7 (args:=[pt n9]) 11 ⟨w,w24.heap.size+2,[(A8 w),(Ad z),(Ac z b11 cp8),(Ae n9 b11 cp8),(Ca.Am c18 F19 (fun _=>[])),(Tl.AA t22 F23 (AO [])),(AZ w24 c18 t22),(Bc w24)]⟩ Tryd.func13 rfl (by kernel_rfl) (by kernel_rfl) hw27 ?_
 refine BF 17 0 [0] [[o0],[o0,o0],[o0,o0,o0,(a1 3),o0,o0,o0]] [Qb n9] [(2,i6 4)] rfl ⟨rfl,Aa⟩ ?_
 refine AL [] [] (i6 4) Aa ?_
 intro w28 hw28
 refine⟨_,_,rfl,hw28, ?_⟩
 refine D9 19 1 [0] [[o0,o0],[o0,o0,o0,o0,(an 17 6),o0,o0,o0,o0,o0,o0,o0],[o0,o0,o0,o0,(a1 8)],[o0,o0,o0,o0,o0,o0,(a1 6),o0,o0,o0,(a1 8)],[o0]] [Qb w24.heap.size,Qb w24.heap.size,Qb w24.heap.size,Qb w24.heap.size,Qb w24.heap.size,Qb w24.heap.size,Qb w24.heap.size,Qb w24.heap.size,Qb w24.heap.size,Qb w24.heap.size,Qb w24.heap.size,Qb w24.heap.size,Qb w24.heap.size,Qb w24.heap.size,Qb w24.heap.size,Qb w24.heap.size,Qb w24.heap.size,Qb (w24.heap.size+2),Qb w24.heap.size,Qb (w24.heap.size+2)] [(Cf w24),(Df w24),(Dv w24),(53,pt (w24.heap.size+2))] ⟨w,w24.heap.size+3,(FW w z b11 cp8 n9 c18 F19 t22 F23 w24)⟩ rfl ⟨rfl,rfl,rfl,rfl,rfl,rfl,rfl,rfl,rfl,rfl,rfl,rfl,rfl,rfl,rfl,rfl,rfl,rfl,rfl,rfl,Aa⟩ ?_
 refine l_call [] [] 27 #[pt (w24.heap.size+2)] (some 54) Aa ?_
 intro w29 hw29
 refine A7 (args:=[pt (w24.heap.size+2)]) 47 ⟨w,w24.heap.size+3,(FW w z b11 cp8 n9 c18 F19 t22 F23 w24)⟩ Tryd.func27 rfl (by kernel_rfl) (by kernel_rfl) hw29 ?_
 refine BF 6 6 [] [[o0],[o0,o0,o0,o0,o0,(a1 8)]] [Qb (w24.heap.size+2)] [(CS w24),(8,pt (w24.heap.size+2)),(13,.int .u32 0)] rfl ⟨rfl,Aa⟩ ?_
 refine l_call [] [] 37 #[pt (w24.heap.size+2),.int .u32 0,i6 4] (some 14) Aa ?_
 intro w30 hw30
 refine A7 (args:=[pt (w24.heap.size+2),.int .u32 0,i6 4]) 55 ⟨w,w24.heap.size+3,(FW w z b11 cp8 n9 c18 F19 t22 F23 w24)⟩ Tryd.func37 rfl (by kernel_rfl) (by kernel_rfl) hw30 ?_
 refine BF 14 5 [0] [[o0,o0],[o0,o0],[o0,o0,o0,o0,o0]] [] [(CS w24),(1,.int .u32 0),(16,pt (w24.heap.size+2)),(19,i6 0),(20,i6 4)] rfl Aa ?_
 refine l_call [] [] 56 #[pt (w24.heap.size+2),i6 0,i6 4] (some 21) Aa ?_
 intro w31 hw31
 refine A7 (args:=[pt (w24.heap.size+2),i6 0,i6 4]) 80 ⟨w,w24.heap.size+3,(FW w z b11 cp8 n9 c18 F19 t22 F23 w24)⟩ Tryd.func56 rfl (by kernel_rfl) (by kernel_rfl) hw31 ?_
 refine BF 6 8 [] [[o0,o0],[o0,o0,o0,(a1 8),o0,o0,(a1 6),o0]] [Qb (w24.heap.size+2),Qb w24.heap.size] [(CS w24),(1,i6 0),(2,i6 4),(18,pt t22),(19,i6 0)] rfl ⟨rfl,rfl,Aa⟩ ?_
 refine l_call [] [] 69 #[pt t22,i6 0] (some 20) Aa ?_
 intro w32 hw32
 have hgo:=Gi hw32 (i:=5) (xs:=[]) rfl 0
 rw[show fV [] 0=⟨0,0,0⟩from by kernel_rfl,show fB [] 0=false from by kernel_rfl,show F5 [] 0=[]from by kernel_rfl]at hgo
 refine hgo.mono ?_
 rintro e w34 ⟨F33,rfl,hmw34,hSw34⟩
 have hnw34:w24.heap.size+3≤w34.heap.size:=hmw34
 refine⟨_,_,rfl,hSw34, ?_⟩
 refine D9 18 0 [1] [[o0,o0,o0,o0,(an 3 9),o0],[o0,o0],[o0,o0,o0,o0,(a1 8),o0,o0,o0,o0,(a1 8)],[o0]] [Qb w34.heap.size,Qb w34.heap.size,Qb w34.heap.size,Qb (w24.heap.size+2),Qb (w24.heap.size+2)] [(CS w24),(1,i6 0),(2,i6 4),(DJ w34)] ⟨w,w34.heap.size+1,[(A8 w),(Ad z),(Ac z b11 cp8),(Ae n9 b11 cp8),(Ca.Am c18 F19 (fun _=>[])),(Tl.AA t22 F33 (AO [])),(AZ w24 c18 t22),(Bc w24),(Ei w24 n9),(Gv w34)]⟩ rfl ⟨rfl,rfl,rfl,rfl,rfl,Aa⟩ ?_
 refine Dw 15 [0,1,2,3,4,5,6,7,8] [(A8 w),(Ad z),(Ac z b11 cp8),(Ae n9 b11 cp8),(Ca.Am c18 F19 (fun _=>[])),(Tl.AA t22 F33 (AO [])),(AZ w24 c18 t22),(Bc w24),(Ei w24 n9)] rfl rfl ?_
 refine Cb [(0,o0),(1,o0),(2,o0),(3,(a1 8)),(4,o0),(5,o0),(6,o0),(7,(a1 8)),(8,o0)] [0,2,8,38,42,43] [Qb (w24.heap.size+2),Qb (w24.heap.size+2)] (CJ 9 6) [(CS w24),(2,i6 4),(DJ w34),(38,pt n9),(42,i6 0),(43,i6 0)] ⟨rfl,rfl,Aa⟩ ?_
 refine CU 9 ?_
 refine Dj [] [] 22 #[pt n9,i6 0,i6 0] (some 44) (by as_aux_lemma=>kernel_rfl) rfl rfl Aa ?_
 intro w35 hw35
 refine A7 (args:=[pt n9,i6 0,i6 0]) 61 ⟨w,w34.heap.size+1,[(A8 w),(Ad z),(Ac z b11 cp8),(Ae n9 b11 cp8),(Ca.Am c18 F19 (fun _=>[])),(Tl.AA t22 F33 (AO [])),(AZ w24 c18 t22),(Bc w24),(Ei w24 n9),(Gv w34)]⟩ Tryd.func22 rfl (by kernel_rfl) (by kernel_rfl) hw35 ?_
 refine q_c 13 2 [0] [[o0,o0],[o0,o0,o0],[o0,o0]] [] [(C9 n9),(1,i6 0),(2,i6 0),(6,pt (w34.heap.size+1)),(18,pt n9),(19,i6 0)] ⟨w,w34.heap.size+2,(CQ w z b11 cp8 n9 c18 F19 t22 F33 w24 w34)⟩ rfl Aa ?_
 refine l_call [] [] 30 #[pt n9,i6 0] (some 20) Aa ?_
 intro w36 hw36
 refine A7 (args:=[pt n9,i6 0]) 13 ⟨w,w34.heap.size+2,(CQ w z b11 cp8 n9 c18 F19 t22 F33 w24 w34)⟩ Tryd.func30 rfl (by kernel_rfl) (by kernel_rfl) hw36 ?_
 refine BF 6 5 [] [[o0],[o0,o0,o0,o0,o0]] [] [(7,.bool true),(8,i6 0),(EX n9)] rfl Aa ?_
 refine l_call [] [] 13 #[pt n9] (some 10) Aa ?_
 intro w37 hw37
 refine A7 (args:=[pt n9]) 11 ⟨w,w34.heap.size+2,(CQ w z b11 cp8 n9 c18 F19 t22 F33 w24 w34)⟩ Tryd.func13 rfl (by kernel_rfl) (by kernel_rfl) hw37 ?_
 refine BF 17 0 [0] [[o0],[o0,o0],[o0,o0,o0,(a1 3),o0,o0,o0]] [Qb n9] [(2,i6 4)] rfl ⟨rfl,Aa⟩ ?_
 refine AL [] [] (i6 4) Aa ?_
 intro w38 hw38
 refine⟨_,_,rfl,hw38, ?_⟩
 refine BI 3 0 [] [[o0,o0,o0]] [] [(4,.bool true)] rfl Aa ?_
 refine AL [] [] (.bool true) Aa ?_
 intro w39 hw39
 refine⟨_,_,rfl,hw39, ?_⟩
 refine BI 13 4 [0,0] [[o0,o0],[o0,o0,o0,o0,o0,o0,o0],[o0,o0,o0,o0]] [] [(C9 n9),(2,i6 0),(6,pt (w34.heap.size+1)),(32,pt n9),(33,i6 0),(35,i6 0)] rfl Aa ?_
 refine l_call [] [] 34 #[pt n9,i6 0,i6 0] (some 36) Aa ?_
 intro w40 hw40
 refine A7 (args:=[pt n9,i6 0,i6 0]) 40 ⟨w,w34.heap.size+2,(CQ w z b11 cp8 n9 c18 F19 t22 F33 w24 w34)⟩ Tryd.func34 rfl (by kernel_rfl) (by kernel_rfl) hw40 ?_
 refine BF 6 5 [] [[o0,o0,o0],[o0,o0,o0,o0,o0]] [] [(C9 n9),(15,pt n9),(19,i6 0)] rfl Aa ?_
 refine l_call [] [] 18 #[pt n9,i6 0] (some 20) Aa ?_
 intro w41 hw41
 refine A7 (args:=[pt n9,i6 0]) 20 ⟨w,w34.heap.size+2,(CQ w z b11 cp8 n9 c18 F19 t22 F33 w24 w34)⟩ Tryd.func18 rfl (by kernel_rfl) (by kernel_rfl) hw41 ?_
 refine BF 7 2 [] [[o0,o0],[o0,o0]] [] [(C9 n9),(1,i6 0),(E8 n9),(8,i6 0)] rfl Aa ?_
 refine l_call [] [] 31 #[pt n9,i6 0,i6 1] (some 9) Aa ?_
 intro w42 hw42
 refine A7 (args:=[pt n9,i6 0,i6 1]) 35 ⟨w,w34.heap.size+2,(CQ w z b11 cp8 n9 c18 F19 t22 F33 w24 w34)⟩ Tryd.func31 rfl (by kernel_rfl) (by kernel_rfl) hw42 ?_
 refine BF 25 0 [0,0] [[o0],[o0,o0],[o0,o0,o0,o0,o0,o0,o0,o0,o0,o0,o0,(a1 3),o0,o0,o0,o0,o0,o0,o0,o0,(a1 3),o0,o0,o0,o0,o0],[o0]] [Qb n9,Qb n9] [(6,i6 0)] rfl ⟨rfl,rfl,Aa⟩ ?_
 refine AL [] [] (i6 0) Aa ?_
 intro w43 hw43
 refine⟨_,_,rfl,hw43, ?_⟩
 refine BI 14 0 [0] [[o0],[o0,o0],[o0,o0,o0,(a1 3),o0,(oi 0),(oa [.via 2 (.int .u32 2147483656)]),o0,o0]] [Qb n9,(0:Int)=((0:Nat):Int),0<64,AU,∀ w',Ch.holds (Ac z b11 cp8) w'→w'.cell? ⟨b11,0,none⟩=some (.int .u32 2147483656)] [(4,.int .u32 2147483656),(5,i6 0)] rfl ⟨rfl,rfl,(by omega),rfl,DD (sz:=1) (j:=0) (k:=0) (fun _=>rfl) (by exact of_decide_eq_true (by kernel_rfl)) (by kernel_rfl),Aa⟩ ?_
 refine AL [] [] (.tuple #[.int .u32 2147483656,i6 0]) Aa ?_
 intro w44 hw44
 refine⟨_,_,rfl,hw44, ?_⟩
 refine BI 12 1 [0] [[o0,o0,o0,o0,o0],[o0,o0],[o0]] [] [(C9 n9),(27,.int .u32 2147483656)] rfl Aa ?_
 refine l_call [] [] 19 #[.int .u32 2147483656] (some 28) Aa ?_
 intro w45 hw45
 refine A7 (args:=[.int .u32 2147483656]) 15 ⟨w,w34.heap.size+2,(CQ w z b11 cp8 n9 c18 F19 t22 F33 w24 w34)⟩ Tryd.func19 rfl (by kernel_rfl) (by kernel_rfl) hw45 ?_
 refine BF 17 0 [0] [[o0,o0,o0],[o0,o0,o0],[o0,o0,o0,o0,o0,o0,o0,o0,o0,o0]] [] [(2,i6 1),(3,i6 0),(4,.bool true)] rfl Aa ?_
 refine AL [] [] (.tuple #[i6 1,i6 0,.bool true]) Aa ?_
 intro w46 hw46
 refine⟨_,_,rfl,hw46, ?_⟩
 refine BI 13 2 [0] [[o0,o0,o0,o0,o0,o0,o0],[o0,o0],[o0,o0]] [] [(11,i6 1),(12,i6 0),(34,pt n9),(35,i6 1)] rfl Aa ?_
 refine l_call [] [] 30 #[pt n9,i6 1] (some 36) Aa ?_
 intro w47 hw47
 refine A7 (args:=[pt n9,i6 1]) 13 ⟨w,w34.heap.size+2,(CQ w z b11 cp8 n9 c18 F19 t22 F33 w24 w34)⟩ Tryd.func30 rfl (by kernel_rfl) (by kernel_rfl) hw47 ?_
 refine BF 6 5 [] [[o0],[o0,o0,o0,o0,o0]] [] [(7,.bool true),(8,i6 1),(EX n9)] rfl Aa ?_
 refine l_call [] [] 13 #[pt n9] (some 10) Aa ?_
 intro w48 hw48
 refine A7 (args:=[pt n9]) 11 ⟨w,w34.heap.size+2,(CQ w z b11 cp8 n9 c18 F19 t22 F33 w24 w34)⟩ Tryd.func13 rfl (by kernel_rfl) (by kernel_rfl) hw48 ?_
 refine BF 17 0 [0] [[o0],[o0,o0],[o0,o0,o0,(a1 3),o0,o0,o0]] [Qb n9] [(2,i6 4)] rfl ⟨rfl,Aa⟩ ?_
 refine AL [] [] (i6 4) Aa ?_
 intro w49 hw49
 refine⟨_,_,rfl,hw49, ?_⟩
 refine BI 3 0 [] [[o0,o0,o0]] [] [(4,.bool true)] rfl Aa ?_
 refine AL [] [] (.bool true) Aa ?_
 intro w50 hw50
 refine⟨_,_,rfl,hw50, ?_⟩
 refine BI 10 0 [0] [[o0],[o0,o0,o0,o0,o0]] [] [(6,i6 1),(7,i6 0),(8,i6 0)] rfl Aa ?_
 refine AL [] [] (.tuple #[i6 1,i6 0,i6 0]) Aa ?_
 intro w51 hw51
 refine⟨_,_,rfl,hw51, ?_⟩
 refine BI 12 4 [0] [[o0,o0,o0,o0,o0,o0,o0],[o0,o0],[o0,o0,o0,o0]] [] [(2,i6 0),(6,pt (w34.heap.size+1)),(45,pt n9),(46,i6 1),(48,i6 0)] rfl Aa ?_
 refine l_call [] [] 34 #[pt n9,i6 1,i6 0] (some 49) Aa ?_
 intro w52 hw52
 refine A7 (args:=[pt n9,i6 1,i6 0]) 40 ⟨w,w34.heap.size+2,(CQ w z b11 cp8 n9 c18 F19 t22 F33 w24 w34)⟩ Tryd.func34 rfl (by kernel_rfl) (by kernel_rfl) hw52 ?_
 refine BF 6 5 [] [[o0,o0,o0],[o0,o0,o0,o0,o0]] [] [(C9 n9),(15,pt n9),(19,i6 16)] rfl Aa ?_
 refine l_call [] [] 18 #[pt n9,i6 16] (some 20) Aa ?_
 intro w53 hw53
 refine A7 (args:=[pt n9,i6 16]) 20 ⟨w,w34.heap.size+2,(CQ w z b11 cp8 n9 c18 F19 t22 F33 w24 w34)⟩ Tryd.func18 rfl (by kernel_rfl) (by kernel_rfl) hw53 ?_
 refine BF 7 2 [] [[o0,o0],[o0,o0]] [] [(C9 n9),(1,i6 16),(E8 n9),(8,i6 16)] rfl Aa ?_
 refine l_call [] [] 31 #[pt n9,i6 16,i6 1] (some 9) Aa ?_
 intro w54 hw54
 refine A7 (args:=[pt n9,i6 16,i6 1]) 35 ⟨w,w34.heap.size+2,(CQ w z b11 cp8 n9 c18 F19 t22 F33 w24 w34)⟩ Tryd.func31 rfl (by kernel_rfl) (by kernel_rfl) hw54 ?_
 refine BF 25 0 [0,0] [[o0],[o0,o0],[o0,o0,o0,o0,o0,o0,o0,o0,o0,o0,o0,(a1 3),o0,o0,o0,o0,o0,o0,o0,o0,(a1 3),o0,o0,o0,o0,o0],[o0]] [Qb n9,Qb n9] [(6,i6 0)] rfl ⟨rfl,rfl,Aa⟩ ?_
 refine AL [] [] (i6 0) Aa ?_
 intro w55 hw55
 refine⟨_,_,rfl,hw55, ?_⟩
 refine BI 14 0 [0] [[o0],[o0,o0],[o0,o0,o0,(a1 3),o0,(oi 16),(oa [.via 2 (.int .u32 2147483671)]),o0,o0]] [Qb n9,(16:Int)=((16:Nat):Int),16<64,AU,∀ w',Ch.holds (Ac z b11 cp8) w'→w'.cell? ⟨b11,16,none⟩=some (.int .u32 2147483671)] [(4,.int .u32 2147483671),(5,i6 0)] rfl ⟨rfl,rfl,(by omega),rfl,DD (sz:=1) (j:=16) (k:=0) (fun _=>rfl) (by exact of_decide_eq_true (by kernel_rfl)) (by kernel_rfl),Aa⟩ ?_
 refine AL [] [] (.tuple #[.int .u32 2147483671,i6 0]) Aa ?_
 intro w56 hw56
 refine⟨_,_,rfl,hw56, ?_⟩
 refine BI 12 1 [0] [[o0,o0,o0,o0,o0],[o0,o0],[o0]] [] [(C9 n9),(27,.int .u32 2147483671)] rfl Aa ?_
 refine l_call [] [] 19 #[.int .u32 2147483671] (some 28) Aa ?_
 intro w57 hw57
 refine A7 (args:=[.int .u32 2147483671]) 15 ⟨w,w34.heap.size+2,(CQ w z b11 cp8 n9 c18 F19 t22 F33 w24 w34)⟩ Tryd.func19 rfl (by kernel_rfl) (by kernel_rfl) hw57 ?_
 refine BF 17 0 [0] [[o0,o0,o0],[o0,o0,o0],[o0,o0,o0,o0,o0,o0,o0,o0,o0,o0]] [] [(2,i6 2),(3,i6 7),(4,.bool true)] rfl Aa ?_
 refine AL [] [] (.tuple #[i6 2,i6 7,.bool true]) Aa ?_
 intro w58 hw58
 refine⟨_,_,rfl,hw58, ?_⟩
 refine BI 13 2 [0] [[o0,o0,o0,o0,o0,o0,o0],[o0,o0],[o0,o0]] [] [(11,i6 2),(12,i6 7),(34,pt n9),(35,i6 2)] rfl Aa ?_
 refine l_call [] [] 30 #[pt n9,i6 2] (some 36) Aa ?_
 intro w59 hw59
 refine A7 (args:=[pt n9,i6 2]) 13 ⟨w,w34.heap.size+2,(CQ w z b11 cp8 n9 c18 F19 t22 F33 w24 w34)⟩ Tryd.func30 rfl (by kernel_rfl) (by kernel_rfl) hw59 ?_
 refine BF 6 5 [] [[o0],[o0,o0,o0,o0,o0]] [] [(7,.bool true),(8,i6 2),(EX n9)] rfl Aa ?_
 refine l_call [] [] 13 #[pt n9] (some 10) Aa ?_
 intro w60 hw60
 refine A7 (args:=[pt n9]) 11 ⟨w,w34.heap.size+2,(CQ w z b11 cp8 n9 c18 F19 t22 F33 w24 w34)⟩ Tryd.func13 rfl (by kernel_rfl) (by kernel_rfl) hw60 ?_
 refine BF 17 0 [0] [[o0],[o0,o0],[o0,o0,o0,(a1 3),o0,o0,o0]] [Qb n9] [(2,i6 4)] rfl ⟨rfl,Aa⟩ ?_
 refine AL [] [] (i6 4) Aa ?_
 intro w61 hw61
 refine⟨_,_,rfl,hw61, ?_⟩
 refine BI 3 0 [] [[o0,o0,o0]] [] [(4,.bool true)] rfl Aa ?_
 refine AL [] [] (.bool true) Aa ?_
 intro w62 hw62
 refine⟨_,_,rfl,hw62, ?_⟩
 refine BI 10 0 [0] [[o0],[o0,o0,o0,o0,o0]] [] [(6,i6 2),(7,i6 7),(8,i6 0)] rfl Aa ?_
 refine AL [] [] (.tuple #[i6 2,i6 7,i6 0]) Aa ?_
 intro w63 hw63
 refine⟨_,_,rfl,hw63, ?_⟩
 refine D9 15 0 [0] [[o0,o0,o0,o0,o0,o0,o0],[o0,o0],[o0,o0,o0,o0,(an 3 10),o0]] [Qb (w34.heap.size+1),Qb (w34.heap.size+1),Qb (w34.heap.size+1)] [(6,pt (w34.heap.size+1)),(7,i6 0)] ⟨w,w34.heap.size+2,[(A8 w),(Ad z),(Ac z b11 cp8),(Ae n9 b11 cp8),(Ca.Am c18 F19 (fun _=>[])),(Tl.AA t22 F33 (AO [])),(AZ w24 c18 t22),(Bc w24),(Ei w24 n9),(Gv w34),(Ah w34)]⟩ rfl ⟨rfl,rfl,rfl,Aa⟩ ?_
 refine AL [.at 10,.at 10,.at 10] [Qb (w34.heap.size+1),Qb (w34.heap.size+1),Qb (w34.heap.size+1)] (.tuple #[.agg #[i6 0,i6 2,i6 7],i6 0]) ⟨rfl,rfl,rfl,Aa⟩ ?_
 intro w64 hw64
 have hs65:=hw64
 refine⟨_,_,rfl,hs65,.inr (fun c hc=>hs65.all c (by first | exact hc | exact Cj (is:=[0,1,2,3,4,5,6,7,8]) rfl c hc)), ?_⟩
 refine Dx [0,2,8,44] [(CS w24),(2,i6 4),(DJ w34),(44,.tuple #[.agg #[i6 0,i6 2,i6 7],i6 0])] ?_
 refine Cb [(10,o0),(11,o0),(12,o0)] [0,2,8,45,46] [] (CJ 13 2) [(CS w24),(2,i6 4),(DJ w34),(45,.agg #[i6 0,i6 2,i6 7]),(46,i6 0)] Aa ?_
 refine CU 13 ?_
 refine EU (an 3 9) [0,2,8,46] [Qb w34.heap.size,Qb w34.heap.size,Qb w34.heap.size] [(CS w24),(2,i6 4),(DJ w34),(46,i6 0)] ⟨w,w34.heap.size+2,[(A8 w),(Ad z),(Ac z b11 cp8),(Ae n9 b11 cp8),(Ca.Am c18 F19 (fun _=>[])),(Tl.AA t22 F33 (AO [])),(AZ w24 c18 t22),(Bc w24),(Ei w24 n9),(Ai w34),(Ah w34)]⟩ [0,1,2,3,4,5,6,7,8] ⟨rfl,rfl,rfl,Aa⟩ (.inr rfl) ?_
 refine Cb [(14,o0)] [0,2,8,10] [] (CJ 15 0) [(CS w24),(2,i6 4),(DJ w34),(10,i6 0)] Aa ?_
 refine Di ?_
 refine GM 8 0 [0] [[o0,o0]] [] [(CS w24),(2,i6 4),(DJ w34),(48,.bool false)] rfl Aa ?_
 refine Dw 8 [0,1,2,3,4,5,6,7,8,9,10] [(A8 w),(Ad z),(Ac z b11 cp8),(Ae n9 b11 cp8),(Ca.Am c18 F19 (fun _=>[])),(Tl.AA t22 F33 (AO [])),(AZ w24 c18 t22),(Bc w24),(Ei w24 n9),(Ai w34),(Ah w34)] rfl rfl ?_
 refine Cb [(0,o0),(1,o0),(2,o0),(3,(a1 8)),(4,o0),(5,o0),(6,(a1 6)),(7,(an 3 9))] [0,2,8,55,56] [Qb (w24.heap.size+2),Qb w24.heap.size,Qb w34.heap.size,Qb w34.heap.size,Qb w34.heap.size] (CJ 8 1) [(CS w24),(2,i6 4),(DJ w34),(55,pt t22),(56,.agg #[i6 0,i6 2,i6 7])] ⟨rfl,rfl,rfl,rfl,rfl,Aa⟩ ?_
 refine CU 8 ?_
 refine Dj [] [] 70 #[pt t22,.agg #[i6 0,i6 2,i6 7]] (some 57) (by as_aux_lemma=>kernel_rfl) rfl rfl Aa ?_
 intro w66 hw66
 have hgo:=IU hw66 (i:=5) (xs:=[]) rfl (⟨0,2,7⟩:Ag)
 rw[show KN (⟨0,2,7⟩:Ag)=0 from by kernel_rfl,show GX [] (⟨0,2,7⟩:Ag)=[(⟨0,2,7⟩:Ag)]from by kernel_rfl]at hgo
 refine hgo.mono ?_
 rintro e w68 ⟨F67,rfl,hmw68,hSw68⟩
 have hnw68:w34.heap.size+2≤w68.heap.size:=hmw68
 refine⟨_,_,rfl,hSw68,.inl rfl, ?_⟩
 refine Dx [0,2,8] [(CS w24),(2,i6 4),(DJ w34)] ?_
 refine EI 9 [0,1,2,3,4,5,6,7,8,9,10] (He w z b11 cp8 n9 c18 F19 t22 F67 w24 w34) rfl rfl ?_
 refine Di ?_
 refine FZ [0,2,8] [(CS w24),(2,i6 4),(DJ w34)] ?_
 refine Gy <| JC <| Dw 24 [0,1,2,3,4,5,6,7,8,9,10] (He w z b11 cp8 n9 c18 F19 t22 F67 w24 w34) rfl rfl ?_
 refine Cb [(0,o0),(1,(a1 9)),(2,o0),(3,(a1 9)),(4,o0),(5,o0),(6,o0),(7,o0),(8,o0),(9,(a1 9)),(10,o0),(11,o0),(12,o0),(13,o0),(14,(a1 9)),(15,o0),(16,o0),(17,o0),(18,(a1 8))] [59,70,72,76] [Qb w34.heap.size,Qb w34.heap.size,Qb w34.heap.size,Qb w34.heap.size,Qb (w24.heap.size+2)] (CJ 19 5) [(59,i6 2),(70,.bool true),(72,i6 2),(76,pt n9)] ⟨rfl,rfl,rfl,rfl,rfl,Aa⟩ ?_
 refine CU 19 ?_
 refine Dj [] [] 13 #[pt n9] (some 77) (by as_aux_lemma=>kernel_rfl) rfl rfl Aa ?_
 intro w69 hw69
 refine A7 (args:=[pt n9]) 11 ⟨w,w68.heap.size,(He w z b11 cp8 n9 c18 F19 t22 F67 w24 w34)⟩ Tryd.func13 rfl (by kernel_rfl) (by kernel_rfl) hw69 ?_
 refine BF 17 0 [0] [[o0],[o0,o0],[o0,o0,o0,(a1 3),o0,o0,o0]] [Qb n9] [(2,i6 4)] rfl ⟨rfl,Aa⟩ ?_
 refine AL [] [] (i6 4) Aa ?_
 intro w70 hw70
 have hs71:=hw70
 refine⟨_,_,rfl,hs71,.inr (fun c hc=>hs71.all c (by first | exact hc | exact Cj (is:=[0,1,2,3,4,5,6,7,8,9,10]) rfl c hc)), ?_⟩
 refine Dx [59,70,72,77] [(59,i6 2),(70,.bool true),(72,i6 2),(77,i6 4)] ?_
 refine Cb [(20,o0),(21,o0),(22,o0),(23,o0)] [6,7] [] (CJ 24 0) [(6,i6 2),(7,.bool true)] Aa ?_
 refine Di ?_
 refine FZ [6,7] [(6,i6 2),(7,.bool true)] ?_
 refine Gy <| I9 <| AL [] [] (.tuple #[i6 2,.bool true]) Aa ?_
 intro w72 hw72
 refine⟨_,_,rfl,hw72, ?_⟩
 refine BI 16 8 [0] [[o0,o0,o0,o0,o0],[o0,o0],[o0,o0,o0,o0,o0,o0,o0],[o0,o0,o0,(a1 8),o0,o0,(a1 6),o0]] [Qb (w24.heap.size+2),Qb w24.heap.size] [(CS w24),(10,i6 32),(39,pt c18),(40,i6 32)] rfl ⟨rfl,rfl,Aa⟩ ?_
 refine l_call [] [] 57 #[pt c18,i6 32] (some 41) Aa ?_
 intro w73 hw73
 have hgo:=Ca.Gf hw73 (i:=4) rfl 32 (by decide) (by decide)
 rw[show Ca.cost ((fun _=>[]) (((32:Int) / 4 % 4).toNat)) ((32:Int) / 4)=7 from by decide]at hgo
 refine hgo.mono ?_
 rintro e w75 ⟨F74,rfl,hmw75,hSw75⟩
 have hnw75:w68.heap.size≤w75.heap.size:=hmw75
 refine⟨_,_,rfl,hSw75, ?_⟩
 refine D9 11 0 [] [[o0,o0,o0,o0,o0],[o0,o0,o0,o0,(a1 8),o0,o0,o0,o0,o0,(a1 8)],[o0,o0,o0]] [Qb (w24.heap.size+2),Qb (w24.heap.size+2)] [(6,i6 32),(7,.bool true)] ⟨w,w75.heap.size,(Hl w z b11 cp8 n9 c18 F74 t22 F67 w24 w34)⟩ rfl ⟨rfl,rfl,Aa⟩ ?_
 refine AL [] [] (.tuple #[i6 32,.bool true]) Aa ?_
 intro w76 hw76
 refine⟨_,_,rfl,hw76, ?_⟩
 refine BI 12 6 [0] [[o0,o0,o0,o0,o0],[o0,o0],[o0,o0,o0,o0,(a1 8),o0]] [Qb (w24.heap.size+2)] [(CS w24),(20,pt (w24.heap.size+2)),(24,pt n9),(25,i6 32)] rfl ⟨rfl,Aa⟩ ?_
 refine l_call [] [] 18 #[pt n9,i6 32] (some 26) Aa ?_
 intro w77 hw77
 refine A7 (args:=[pt n9,i6 32]) 20 ⟨w,w75.heap.size,(Hl w z b11 cp8 n9 c18 F74 t22 F67 w24 w34)⟩ Tryd.func18 rfl (by kernel_rfl) (by kernel_rfl) hw77 ?_
 refine BF 7 2 [] [[o0,o0],[o0,o0]] [] [(C9 n9),(1,i6 32),(E8 n9),(8,i6 32)] rfl Aa ?_
 refine l_call [] [] 31 #[pt n9,i6 32,i6 1] (some 9) Aa ?_
 intro w78 hw78
 refine A7 (args:=[pt n9,i6 32,i6 1]) 35 ⟨w,w75.heap.size,(Hl w z b11 cp8 n9 c18 F74 t22 F67 w24 w34)⟩ Tryd.func31 rfl (by kernel_rfl) (by kernel_rfl) hw78 ?_
 refine BF 25 0 [0,0] [[o0],[o0,o0],[o0,o0,o0,o0,o0,o0,o0,o0,o0,o0,o0,(a1 3),o0,o0,o0,o0,o0,o0,o0,o0,(a1 3),o0,o0,o0,o0,o0],[o0]] [Qb n9,Qb n9] [(6,i6 0)] rfl ⟨rfl,rfl,Aa⟩ ?_
 refine AL [] [] (i6 0) Aa ?_
 intro w79 hw79
 refine⟨_,_,rfl,hw79, ?_⟩
 refine BI 14 0 [0] [[o0],[o0,o0],[o0,o0,o0,(a1 3),o0,(oi 32),(oa [.via 2 (.int .u32 205520901)]),o0,o0]] [Qb n9,(32:Int)=((32:Nat):Int),32<64,AU,∀ w',Ch.holds (Ac z b11 cp8) w'→w'.cell? ⟨b11,32,none⟩=some (.int .u32 205520901)] [(4,.int .u32 205520901),(5,i6 0)] rfl ⟨rfl,rfl,(by omega),rfl,DD (sz:=1) (j:=32) (k:=0) (fun _=>rfl) (by exact of_decide_eq_true (by kernel_rfl)) (by kernel_rfl),Aa⟩ ?_
 refine AL [] [] (.tuple #[.int .u32 205520901,i6 0]) Aa ?_
 intro w80 hw80
 refine⟨_,_,rfl,hw80, ?_⟩
 refine D9 4 5 [] [[o0,o0,o0,o0,o0,o0,(a1 8)],[o0,o0,o0,o0,(a1 8)]] [Qb (w24.heap.size+2),Qb (w24.heap.size+2)] [(CS w24),(37,.int .u32 205520901)] ⟨w,w75.heap.size,(IC w z b11 cp8 n9 c18 F74 t22 F67 w24 w34)⟩ rfl ⟨rfl,rfl,Aa⟩ ?_
 refine l_call [] [] 38 #[.int .u32 205520901] (some 38) Aa ?_
 intro w81 hw81
 refine A7 (args:=[.int .u32 205520901]) 59 ⟨w,w75.heap.size,(IC w z b11 cp8 n9 c18 F74 t22 F67 w24 w34)⟩ Tryd.func38 rfl (by kernel_rfl) (by kernel_rfl) hw81 ?_
 refine q_c 14 2 [] [[o0,o0,o0],[o0,o0],[(a1 11),o0,o0,o0,o0,(an 5 13)],[o0,(a1 13)]] [Qb w75.heap.size,Qb (w75.heap.size+2),Qb (w75.heap.size+2),Qb (w75.heap.size+2),Qb (w75.heap.size+2),Qb (w75.heap.size+2),Qb (w75.heap.size+2)] [(1,pt w75.heap.size),(FD w75),(Ih w75),(5,pt (w75.heap.size+2)),(19,i6 3)] ⟨w,w75.heap.size+3,(GY w z b11 cp8 n9 c18 F74 t22 F67 w24 w34 w75)⟩ rfl ⟨rfl,rfl,rfl,rfl,rfl,rfl,rfl,Aa⟩ ?_
 refine l_call [] [] 60 #[i6 3] (some 20) Aa ?_
 intro w82 hw82
 refine A7 (args:=[i6 3]) 6 ⟨w,w75.heap.size+3,(GY w z b11 cp8 n9 c18 F74 t22 F67 w24 w34 w75)⟩ Tryd.func60 rfl (by kernel_rfl) (by kernel_rfl) hw82 ?_
 refine BF 6 1 [] [[o0],[o0]] [] [(3,i6 3)] rfl Aa ?_
 refine l_call [] [] 53 #[i6 3] (some 4) Aa ?_
 intro w83 hw83
 refine A7 (args:=[i6 3]) 13 ⟨w,w75.heap.size+3,(GY w z b11 cp8 n9 c18 F74 t22 F67 w24 w34 w75)⟩ Tryd.func53 rfl (by kernel_rfl) (by kernel_rfl) hw83 ?_
 refine q_c 17 0 [0] [[o0],[o0,o0,o0,o0,o0,o0],[o0,(oi 3),(oa [.via 0 (.string (nm 3)),.via 0 (i6 5),.via 0 (i6 1)]),(an 3 14)]] [(3:Int)=((3:Nat):Int),3<31,AU,Old w 0 9 (.string (nm 3)),Old w 0 10 (i6 5),Old w 0 11 (i6 1),Qb (w75.heap.size+3),Qb (w75.heap.size+3),Qb (w75.heap.size+3)] [(2,pt (w75.heap.size+3))] ⟨w,w75.heap.size+4,(Hu w z b11 cp8 n9 c18 F74 t22 F67 w24 w34 w75 nm)⟩ rfl ⟨rfl,(by omega),rfl,BQ (hL 9 _ rfl),BQ (hL 10 _ rfl),BQ (hL 11 _ rfl),rfl,rfl,rfl,Aa⟩ ?_
 refine AL [.at 14,.at 14,.at 14] [Qb (w75.heap.size+3),Qb (w75.heap.size+3),Qb (w75.heap.size+3)] (.agg #[.string (nm 3),i6 5,i6 1]) ⟨rfl,rfl,rfl,Aa⟩ ?_
 intro w84 hw84
 refine⟨_,_,rfl,hw84, ?_⟩
 refine BI 3 0 [] [[o0,o0]] [] [(2,i6 5)] rfl Aa ?_
 refine AL [] [] (i6 5) Aa ?_
 intro w85 hw85
 refine⟨_,_,rfl,hw85, ?_⟩
 refine Fh [1,2,4,5,20] [(1,pt w75.heap.size),(FD w75),(Ih w75),(5,pt (w75.heap.size+2)),(20,i6 5)] ?_
 refine l_call [] [] 59 #[i6 5] (some 21) Aa ?_
 intro w86 hw86
 refine A7 (args:=[i6 5]) 23 ⟨w,w75.heap.size+4,(Hu w z b11 cp8 n9 c18 F74 t22 F67 w24 w34 w75 nm)⟩ Tryd.func59 rfl (by kernel_rfl) (by kernel_rfl) hw86 ?_
 refine BF 39 0 [0,0,0,1] [[o0,o0,o0,o0],[o0],[o0,o0],[o0,o0],[o0,o0],[o0,o0],[o0,o0],[o0,o0,o0,o0,o0,o0,o0,o0]] [] [(2,.bool true),(3,.bool false),(4,.bool false),(5,.bool true)] rfl Aa ?_
 refine AL [] [] (.tuple #[.bool true,.bool false,.bool false,.bool true]) Aa ?_
 intro w87 hw87
 refine⟨_,_,rfl,hw87, ?_⟩
 refine BI 9 1 [1] [[o0,o0,o0,o0,o0,o0,o0,o0,o0],[o0],[o0]] [] [(1,pt w75.heap.size),(FD w75),(Ih w75),(5,pt (w75.heap.size+2)),(7,.bool false),(8,.bool false),(9,.bool true),(27,.func (.func 58) #[] #[pt w75.heap.size])] rfl Aa ?_
 refine l_call [] [] 58 #[i6 22,pt w75.heap.size] (some 28) Aa ?_
 intro w88 hw88
 refine A7 (args:=[i6 22,pt w75.heap.size]) 9 ⟨w,w75.heap.size+4,(Hu w z b11 cp8 n9 c18 F74 t22 F67 w24 w34 w75 nm)⟩ Tryd.func58 rfl (by kernel_rfl) (by kernel_rfl) hw88 ?_
 refine BF 9 0 [] [[o0],[(a1 11),o0,o0,o0,o0,o0]] [Qb w75.heap.size] [(3,i6 1)] rfl ⟨rfl,Aa⟩ ?_
 refine AL [] [] (i6 1) Aa ?_
 intro w89 hw89
 refine⟨_,_,rfl,hw89, ?_⟩
 refine D9 30 1 [0,0,1] [[o0,(a1 13)],[o0],[o0],[o0],[(a1 11),o0,o0,o0,o0,o0,(a1 13)],[(an 5 13)]] [Qb (w75.heap.size+2),Qb w75.heap.size,Qb (w75.heap.size+2),Qb (w75.heap.size+2),Qb (w75.heap.size+2),Qb (w75.heap.size+2),Qb (w75.heap.size+2),Qb (w75.heap.size+2)] [(1,pt w75.heap.size),(FD w75),(5,pt (w75.heap.size+2)),(46,.agg #[i6 3,i6 1,i6 0,i6 0,i6 5])] ⟨w,w75.heap.size+4,(Jm w z b11 cp8 n9 c18 F74 t22 F67 w24 w34 w75 nm)⟩ rfl ⟨rfl,rfl,rfl,rfl,rfl,rfl,rfl,rfl,Aa⟩ ?_
 refine l_call [] [] 61 #[.agg #[i6 3,i6 1,i6 0,i6 0,i6 5]] (some 47) Aa ?_
 intro w90 hw90
 refine A7 (args:=[.agg #[i6 3,i6 1,i6 0,i6 0,i6 5]]) 75 ⟨w,w75.heap.size+4,(Jm w z b11 cp8 n9 c18 F74 t22 F67 w24 w34 w75 nm)⟩ Tryd.func61 rfl (by kernel_rfl) (by kernel_rfl) hw90 ?_
 refine q_c 6 2 [] [[o0,o0,o0],[o0,(a1 15)]] [Qb (w75.heap.size+4)] [(EF w75),(11,i6 3)] ⟨w,w75.heap.size+5,(Hf w z b11 cp8 n9 c18 F74 t22 F67 w24 w34 w75 nm)⟩ rfl ⟨rfl,Aa⟩ ?_
 refine l_call [] [] 60 #[i6 3] (some 12) Aa ?_
 intro w91 hw91
 refine A7 (args:=[i6 3]) 6 ⟨w,w75.heap.size+5,(Hf w z b11 cp8 n9 c18 F74 t22 F67 w24 w34 w75 nm)⟩ Tryd.func60 rfl (by kernel_rfl) (by kernel_rfl) hw91 ?_
 refine BF 6 1 [] [[o0],[o0]] [] [(3,i6 3)] rfl Aa ?_
 refine l_call [] [] 53 #[i6 3] (some 4) Aa ?_
 intro w92 hw92
 refine A7 (args:=[i6 3]) 13 ⟨w,w75.heap.size+5,(Hf w z b11 cp8 n9 c18 F74 t22 F67 w24 w34 w75 nm)⟩ Tryd.func53 rfl (by kernel_rfl) (by kernel_rfl) hw92 ?_
 refine q_c 17 0 [0] [[o0],[o0,o0,o0,o0,o0,o0],[o0,(oi 3),(oa [.via 0 (.string (nm 3)),.via 0 (i6 5),.via 0 (i6 1)]),(an 3 16)]] [(3:Int)=((3:Nat):Int),3<31,AU,Old w 0 9 (.string (nm 3)),Old w 0 10 (i6 5),Old w 0 11 (i6 1),Qb (w75.heap.size+5),Qb (w75.heap.size+5),Qb (w75.heap.size+5)] [(2,pt (w75.heap.size+5))] ⟨w,w75.heap.size+6,(FT w z b11 cp8 n9 c18 F74 t22 F67 w24 w34 w75 nm)⟩ rfl ⟨rfl,(by omega),rfl,BQ (hL 9 _ rfl),BQ (hL 10 _ rfl),BQ (hL 11 _ rfl),rfl,rfl,rfl,Aa⟩ ?_
 refine AL [.at 16,.at 16,.at 16] [Qb (w75.heap.size+5),Qb (w75.heap.size+5),Qb (w75.heap.size+5)] (.agg #[.string (nm 3),i6 5,i6 1]) ⟨rfl,rfl,rfl,Aa⟩ ?_
 intro w93 hw93
 refine⟨_,_,rfl,hw93, ?_⟩
 refine BI 3 0 [] [[o0,o0]] [] [(2,i6 5)] rfl Aa ?_
 refine AL [] [] (i6 5) Aa ?_
 intro w94 hw94
 refine⟨_,_,rfl,hw94, ?_⟩
 refine Fh [1,12] [(EF w75),(12,i6 5)] ?_
 refine l_call [] [] 59 #[i6 5] (some 13) Aa ?_
 intro w95 hw95
 refine A7 (args:=[i6 5]) 23 ⟨w,w75.heap.size+6,(FT w z b11 cp8 n9 c18 F74 t22 F67 w24 w34 w75 nm)⟩ Tryd.func59 rfl (by kernel_rfl) (by kernel_rfl) hw95 ?_
 refine BF 39 0 [0,0,0,1] [[o0,o0,o0,o0],[o0],[o0,o0],[o0,o0],[o0,o0],[o0,o0],[o0,o0],[o0,o0,o0,o0,o0,o0,o0,o0]] [] [(2,.bool true),(3,.bool false),(4,.bool false),(5,.bool true)] rfl Aa ?_
 refine AL [] [] (.tuple #[.bool true,.bool false,.bool false,.bool true]) Aa ?_
 intro w96 hw96
 refine⟨_,_,rfl,hw96, ?_⟩
 refine BI 5 2 [] [[o0,o0,o0,o0,o0,o0,o0,o0,o0],[o0,(a1 15)]] [Qb (w75.heap.size+4)] [(EF w75),(4,.bool true),(5,.bool false),(6,.bool false),(7,.bool true),(19,i6 3)] rfl ⟨rfl,Aa⟩ ?_
 refine l_call [] [] 60 #[i6 3] (some 20) Aa ?_
 intro w97 hw97
 refine A7 (args:=[i6 3]) 6 ⟨w,w75.heap.size+6,(FT w z b11 cp8 n9 c18 F74 t22 F67 w24 w34 w75 nm)⟩ Tryd.func60 rfl (by kernel_rfl) (by kernel_rfl) hw97 ?_
 refine BF 6 1 [] [[o0],[o0]] [] [(3,i6 3)] rfl Aa ?_
 refine l_call [] [] 53 #[i6 3] (some 4) Aa ?_
 intro w98 hw98
 refine A7 (args:=[i6 3]) 13 ⟨w,w75.heap.size+6,(FT w z b11 cp8 n9 c18 F74 t22 F67 w24 w34 w75 nm)⟩ Tryd.func53 rfl (by kernel_rfl) (by kernel_rfl) hw98 ?_
 refine q_c 17 0 [0] [[o0],[o0,o0,o0,o0,o0,o0],[o0,(oi 3),(oa [.via 0 (.string (nm 3)),.via 0 (i6 5),.via 0 (i6 1)]),(an 3 17)]] [(3:Int)=((3:Nat):Int),3<31,AU,Old w 0 9 (.string (nm 3)),Old w 0 10 (i6 5),Old w 0 11 (i6 1),Qb (w75.heap.size+6),Qb (w75.heap.size+6),Qb (w75.heap.size+6)] [(2,pt (w75.heap.size+6))] ⟨w,w75.heap.size+7,(Fb w z b11 cp8 n9 c18 F74 t22 F67 w24 w34 w75 nm)⟩ rfl ⟨rfl,(by omega),rfl,BQ (hL 9 _ rfl),BQ (hL 10 _ rfl),BQ (hL 11 _ rfl),rfl,rfl,rfl,Aa⟩ ?_
 refine AL [.at 17,.at 17,.at 17] [Qb (w75.heap.size+6),Qb (w75.heap.size+6),Qb (w75.heap.size+6)] (.agg #[.string (nm 3),i6 5,i6 1]) ⟨rfl,rfl,rfl,Aa⟩ ?_
 intro w99 hw99
 refine⟨_,_,rfl,hw99, ?_⟩
 refine BI 3 0 [] [[o0,o0]] [] [(2,i6 5)] rfl Aa ?_
 refine AL [] [] (i6 5) Aa ?_
 intro w100 hw100
 refine⟨_,_,rfl,hw100, ?_⟩
 refine BI 0 5 [] [[o0,o0,o0,o0,(a1 15)]] [Qb (w75.heap.size+4)] [(EF w75),(5,.bool false),(6,.bool false),(7,.bool true),(22,.bool false),(23,.bool true),(25,i6 1)] rfl ⟨rfl,Aa⟩ ?_
 refine l_call [] [] 74 #[.bool true,i6 1,i6 0,i6 15] (some 26) Aa ?_
 intro w101 hw101
 refine A7 (args:=[.bool true,i6 1,i6 0,i6 15]) 21 ⟨w,w75.heap.size+7,(Fb w z b11 cp8 n9 c18 F74 t22 F67 w24 w34 w75 nm)⟩ Tryd.func74 rfl (by kernel_rfl) (by kernel_rfl) hw101 ?_
 refine BF 17 0 [0] [[o0],[o0,o0],[o0,o0,o0,o0,o0,o0,o0,o0,o0]] [] [(8,.bool true)] rfl Aa ?_
 refine AL [] [] (.bool true) Aa ?_
 intro w102 hw102
 refine⟨_,_,rfl,hw102, ?_⟩
 refine BI 0 6 [] [[o0,o0,o0,o0,o0,(a1 15)]] [Qb (w75.heap.size+4)] [(EF w75),(6,.bool false),(7,.bool true),(29,.bool false),(30,.bool false),(32,i6 0)] rfl ⟨rfl,Aa⟩ ?_
 refine l_call [] [] 74 #[.bool false,i6 0,i6 0,i6 15] (some 33) Aa ?_
 intro w103 hw103
 refine A7 (args:=[.bool false,i6 0,i6 0,i6 15]) 21 ⟨w,w75.heap.size+7,(Fb w z b11 cp8 n9 c18 F74 t22 F67 w24 w34 w75 nm)⟩ Tryd.func74 rfl (by kernel_rfl) (by kernel_rfl) hw103 ?_
 refine BF 15 0 [1] [[o0],[o0,o0],[o0,o0,o0]] [] [(8,.bool true)] rfl Aa ?_
 refine AL [] [] (.bool true) Aa ?_
 intro w104 hw104
 refine⟨_,_,rfl,hw104, ?_⟩
 refine BI 0 6 [] [[o0,o0,o0,o0,o0,(a1 15)]] [Qb (w75.heap.size+4)] [(EF w75),(7,.bool true),(36,.bool false),(37,.bool false),(39,i6 0)] rfl ⟨rfl,Aa⟩ ?_
 refine l_call [] [] 74 #[.bool false,i6 0,i6 0,i6 15] (some 40) Aa ?_
 intro w105 hw105
 refine A7 (args:=[.bool false,i6 0,i6 0,i6 15]) 21 ⟨w,w75.heap.size+7,(Fb w z b11 cp8 n9 c18 F74 t22 F67 w24 w34 w75 nm)⟩ Tryd.func74 rfl (by kernel_rfl) (by kernel_rfl) hw105 ?_
 refine BF 15 0 [1] [[o0],[o0,o0],[o0,o0,o0]] [] [(8,.bool true)] rfl Aa ?_
 refine AL [] [] (.bool true) Aa ?_
 intro w106 hw106
 refine⟨_,_,rfl,hw106, ?_⟩
 refine BI 0 6 [] [[o0,o0,o0,o0,o0,(a1 15)]] [Qb (w75.heap.size+4)] [(EF w75),(43,.bool false),(44,.bool true),(46,i6 5)] rfl ⟨rfl,Aa⟩ ?_
 refine l_call [] [] 74 #[.bool true,i6 5,i6 (-131072),i6 131071] (some 47) Aa ?_
 intro w107 hw107
 refine A7 (args:=[.bool true,i6 5,i6 (-131072),i6 131071]) 21 ⟨w,w75.heap.size+7,(Fb w z b11 cp8 n9 c18 F74 t22 F67 w24 w34 w75 nm)⟩ Tryd.func74 rfl (by kernel_rfl) (by kernel_rfl) hw107 ?_
 refine BF 17 0 [0] [[o0],[o0,o0],[o0,o0,o0,o0,o0,o0,o0,o0,o0]] [] [(8,.bool true)] rfl Aa ?_
 refine AL [] [] (.bool true) Aa ?_
 intro w108 hw108
 refine⟨_,_,rfl,hw108, ?_⟩
 refine BI 14 0 [0] [[o0,o0],[o0,(a1 15),o0,o0,o0],[o0,(a1 15),o0,o0,o0,(a1 15),o0,o0,o0,o0,(a1 15),o0,o0,o0,o0,(a1 15),o0,o0,o0,o0,o0,o0,o0]] [Qb (w75.heap.size+4),Qb (w75.heap.size+4),Qb (w75.heap.size+4),Qb (w75.heap.size+4),Qb (w75.heap.size+4)] [(2,.int .u32 205520901),(3,i6 0)] rfl ⟨rfl,rfl,rfl,rfl,rfl,Aa⟩ ?_
 refine AL [] [] (.tuple #[.int .u32 205520901,i6 0]) Aa ?_
 intro w109 hw109
 refine⟨_,_,rfl,hw109, ?_⟩
 refine D9 14 0 [0] [[o0,o0,o0,o0,o0],[o0,o0,o0,o0,(a1 11),o0,o0],[(an 5 13),(an 5 12),o0]] [Qb w75.heap.size,Qb (w75.heap.size+2),Qb (w75.heap.size+2),Qb (w75.heap.size+2),Qb (w75.heap.size+2),Qb (w75.heap.size+2),Qb (w75.heap.size+1),Qb (w75.heap.size+1),Qb (w75.heap.size+1),Qb (w75.heap.size+1),Qb (w75.heap.size+1)] [(FD w75),(3,i6 0)] ⟨w,w75.heap.size+7,[(A8 w),(Ad z),(Ac z b11 cp8),(Ae n9 b11 cp8),(Ca.Am c18 F74 (Ca.put (fun _=>[]) (((32:Int) / 4 % 4).toNat) (Ca.touch ((fun _=>[]) (((32:Int) / 4 % 4).toNat)) ((32:Int) / 4)))),(Tl.AA t22 F67 (AO [(⟨0,2,7⟩:Ag)])),(AZ w24 c18 t22),(Bc w24),(Ej w24 n9),(Ai w34),(Ah w34),(Aj w75),(Aw w75),(Ap w75),(Ak w75 nm),(Aq w75),(Ar w75 nm),(Au w75 nm)]⟩ rfl ⟨rfl,rfl,rfl,rfl,rfl,rfl,rfl,rfl,rfl,rfl,rfl,Aa⟩ ?_
 refine AL [.at 12,.at 12,.at 12,.at 12,.at 12] [Qb (w75.heap.size+1),Qb (w75.heap.size+1),Qb (w75.heap.size+1),Qb (w75.heap.size+1),Qb (w75.heap.size+1)] (.tuple #[.agg #[i6 3,i6 1,i6 0,i6 0,i6 5],i6 0]) ⟨rfl,rfl,rfl,rfl,rfl,Aa⟩ ?_
 intro w110 hw110
 refine⟨_,_,rfl,hw110, ?_⟩
 refine D9 19 0 [0] [[o0,o0,o0,o0,(an 5 18),o0],[o0,o0],[o0,(an 5 18),o0,o0,(an 5 8)],[o0]] [Qb (w75.heap.size+7),Qb (w75.heap.size+7),Qb (w75.heap.size+7),Qb (w75.heap.size+7),Qb (w75.heap.size+7),Qb (w75.heap.size+7),Qb (w75.heap.size+7),Qb (w75.heap.size+7),Qb (w75.heap.size+7),Qb (w75.heap.size+7),Qb (w24.heap.size+2),Qb (w24.heap.size+2),Qb (w24.heap.size+2),Qb (w24.heap.size+2),Qb (w24.heap.size+2)] [(2,i6 0)] ⟨w,w75.heap.size+8,[(A8 w),(Ad z),(Ac z b11 cp8),(Ae n9 b11 cp8),(Ca.Am c18 F74 (Ca.put (fun _=>[]) (((32:Int) / 4 % 4).toNat) (Ca.touch ((fun _=>[]) (((32:Int) / 4 % 4).toNat)) ((32:Int) / 4)))),(Tl.AA t22 F67 (AO [(⟨0,2,7⟩:Ag)])),(AZ w24 c18 t22),(Bc w24),(bk (w24.heap.size+2) #[.int .u32 0,.int .u32 0,.int .u32 0,.int .u32 0,.int .u32 0,.int .u32 0,.int .u32 0,.int .u32 0,.int .u32 0,.int .u32 0,.int .u32 0,.int .u32 0,.int .u32 0,.int .u32 0,.int .u32 0,.int .u32 0,.int .u32 0,pt w24.heap.size,pt n9,i6 0,.int .u32 900,i6 3,i6 1,i6 0,i6 0,i6 5,i6 13,i6 0,i6 (-1),.int .u32 0,.int .u32 205520901,.bool false,.int .u32 0,.int .u32 0] 79),(Ai w34),(Ah w34),(Aj w75),(Aw w75),(Ap w75),(Ak w75 nm),(Aq w75),(Ar w75 nm),(Au w75 nm),(Az w75)]⟩ rfl ⟨rfl,rfl,rfl,rfl,rfl,rfl,rfl,rfl,rfl,rfl,rfl,rfl,rfl,rfl,rfl,Aa⟩ ?_
 refine AL [] [] (i6 0) Aa ?_
 intro w111 hw111
 refine⟨_,_,rfl,hw111, ?_⟩
 refine D9 12 0 [1] [[o0],[o0,o0],[o0,o0,o0,o0,(a1 8),o0,o0,o0,o0,(a1 8)]] [Qb (w24.heap.size+2),Qb (w24.heap.size+2)] [(Cf w24),(Df w24),(Dv w24)] ⟨w,w75.heap.size+8,(Ha w z b11 cp8 n9 c18 F74 t22 F67 w24 w34 w75 nm)⟩ rfl ⟨rfl,rfl,Aa⟩ ?_
 refine Dw 8 [0,1,2,3,4,5,6,7,8,9,10,11,12,13,14,15,16,17,18] (Ha w z b11 cp8 n9 c18 F74 t22 F67 w24 w34 w75 nm) rfl rfl ?_
 refine Cb [(1,o0),(2,o0),(3,o0),(4,o0),(5,(a1 8)),(7,o0)] [0,8,10,71,73] [Qb (w24.heap.size+2)] [false,true,true,true,true,true,false,true,false,false] [(Cf w24),(Df w24),(Dv w24),(71,i6 3),(73,pt (w24.heap.size+2))] ⟨rfl,Aa⟩ ?_
 refine CU 0 ?_
 refine Dj [] [] 28 #[] (some 66) (by as_aux_lemma=>kernel_rfl) rfl rfl Aa ?_
 intro w112 hw112
 refine A7 (args:=[]) 29 ⟨w,w75.heap.size+8,(Ha w z b11 cp8 n9 c18 F74 t22 F67 w24 w34 w75 nm)⟩ Tryd.func28 rfl (by kernel_rfl) (by kernel_rfl) hw112 ?_
 refine q_c 14 0 [] [[o0],[o0],[o0]] [] [(BL w75),(BO w75),(4,i6 0)] ⟨w,w75.heap.size+10,[(A8 w),(Ad z),(Ac z b11 cp8),(Ae n9 b11 cp8),(Ca.Am c18 F74 (Ca.put (fun _=>[]) (((32:Int) / 4 % 4).toNat) (Ca.touch ((fun _=>[]) (((32:Int) / 4 % 4).toNat)) ((32:Int) / 4)))),(Tl.AA t22 F67 (AO [(⟨0,2,7⟩:Ag)])),(AZ w24 c18 t22),(Bc w24),(BJ w24 n9),(Ai w34),(Ah w34),(Aj w75),(Aw w75),(Ap w75),(Ak w75 nm),(Aq w75),(Ar w75 nm),(Au w75 nm),(Az w75),(BN w75),(bk (w75.heap.size+9) #[.nilFunc,.nilFunc,.nilFunc,.nilFunc,.nilFunc,.nilFunc,.nilFunc,.nilFunc,.nilFunc,.nilFunc,.nilFunc,.nilFunc,.nilFunc,.nilFunc,.nilFunc,.nilFunc,.nilFunc,.nilFunc,.nilFunc,.nilFunc,.nilFunc,.nilFunc,.nilFunc,.nilFunc,.nilFunc,.nilFunc,.nilFunc,.nilFunc,.nilFunc,.nilFunc,.nilFunc] 82)]⟩ rfl Aa ?_
 refine FQ 40 ?_
 refine q_c 20 0 [1] [[o0],[o0,o0],[o0,(oi 0),(a1 20)],[o0,o0]] [(0:Int)=((0:Nat):Int),0<31,AU,Qb (w75.heap.size+9)] [(BL w75),(BO w75),(4,i6 1)] ⟨w,w75.heap.size+10,[(A8 w),(Ad z),(Ac z b11 cp8),(Ae n9 b11 cp8),(Ca.Am c18 F74 (Ca.put (fun _=>[]) (((32:Int) / 4 % 4).toNat) (Ca.touch ((fun _=>[]) (((32:Int) / 4 % 4).toNat)) ((32:Int) / 4)))),(Tl.AA t22 F67 (AO [(⟨0,2,7⟩:Ag)])),(AZ w24 c18 t22),(Bc w24),(BJ w24 n9),(Ai w34),(Ah w34),(Aj w75),(Aw w75),(Ap w75),(Ak w75 nm),(Aq w75),(Ar w75 nm),(Au w75 nm),(Az w75),(BN w75),(bk (w75.heap.size+9) #[.func (.func 39) #[] #[],.nilFunc,.nilFunc,.nilFunc,.nilFunc,.nilFunc,.nilFunc,.nilFunc,.nilFunc,.nilFunc,.nilFunc,.nilFunc,.nilFunc,.nilFunc,.nilFunc,.nilFunc,.nilFunc,.nilFunc,.nilFunc,.nilFunc,.nilFunc,.nilFunc,.nilFunc,.nilFunc,.nilFunc,.nilFunc,.nilFunc,.nilFunc,.nilFunc,.nilFunc,.nilFunc] 82)]⟩ rfl ⟨rfl,(by omega),rfl,rfl,Aa⟩ ?_
 refine AB ?_
 refine q_c 20 0 [1] [[o0],[o0,o0],[o0,(oi 1),(a1 20)],[o0,o0]] [(1:Int)=((1:Nat):Int),1<31,AU,Qb (w75.heap.size+9)] [(BL w75),(BO w75),(4,i6 2)] ⟨w,w75.heap.size+10,[(A8 w),(Ad z),(Ac z b11 cp8),(Ae n9 b11 cp8),(Ca.Am c18 F74 (Ca.put (fun _=>[]) (((32:Int) / 4 % 4).toNat) (Ca.touch ((fun _=>[]) (((32:Int) / 4 % 4).toNat)) ((32:Int) / 4)))),(Tl.AA t22 F67 (AO [(⟨0,2,7⟩:Ag)])),(AZ w24 c18 t22),(Bc w24),(BJ w24 n9),(Ai w34),(Ah w34),(Aj w75),(Aw w75),(Ap w75),(Ak w75 nm),(Aq w75),(Ar w75 nm),(Au w75 nm),(Az w75),(BN w75),(bk (w75.heap.size+9) #[.func (.func 39) #[] #[],.func (.func 39) #[] #[],.nilFunc,.nilFunc,.nilFunc,.nilFunc,.nilFunc,.nilFunc,.nilFunc,.nilFunc,.nilFunc,.nilFunc,.nilFunc,.nilFunc,.nilFunc,.nilFunc,.nilFunc,.nilFunc,.nilFunc,.nilFunc,.nilFunc,.nilFunc,.nilFunc,.nilFunc,.nilFunc,.nilFunc,.nilFunc,.nilFunc,.nilFunc,.nilFunc,.nilFunc] 82)]⟩ rfl ⟨rfl,(by omega),rfl,rfl,Aa⟩ ?_
 refine AB ?_
 refine q_c 20 0 [1] [[o0],[o0,o0],[o0,(oi 2),(a1 20)],[o0,o0]] [(2:Int)=((2:Nat):Int),2<31,AU,Qb (w75.heap.size+9)] [(BL w75),(BO w75),(4,i6 3)] ⟨w,w75.heap.size+10,[(A8 w),(Ad z),(Ac z b11 cp8),(Ae n9 b11 cp8),(Ca.Am c18 F74 (Ca.put (fun _=>[]) (((32:Int) / 4 % 4).toNat) (Ca.touch ((fun _=>[]) (((32:Int) / 4 % 4).toNat)) ((32:Int) / 4)))),(Tl.AA t22 F67 (AO [(⟨0,2,7⟩:Ag)])),(AZ w24 c18 t22),(Bc w24),(BJ w24 n9),(Ai w34),(Ah w34),(Aj w75),(Aw w75),(Ap w75),(Ak w75 nm),(Aq w75),(Ar w75 nm),(Au w75 nm),(Az w75),(BN w75),(bk (w75.heap.size+9) #[.func (.func 39) #[] #[],.func (.func 39) #[] #[],.func (.func 39) #[] #[],.nilFunc,.nilFunc,.nilFunc,.nilFunc,.nilFunc,.nilFunc,.nilFunc,.nilFunc,.nilFunc,.nilFunc,.nilFunc,.nilFunc,.nilFunc,.nilFunc,.nilFunc,.nilFunc,.nilFunc,.nilFunc,.nilFunc,.nilFunc,.nilFunc,.nilFunc,.nilFunc,.nilFunc,.nilFunc,.nilFunc,.nilFunc,.nilFunc] 82)]⟩ rfl ⟨rfl,(by omega),rfl,rfl,Aa⟩ ?_
 refine AB ?_
 refine q_c 20 0 [1] [[o0],[o0,o0],[o0,(oi 3),(a1 20)],[o0,o0]] [(3:Int)=((3:Nat):Int),3<31,AU,Qb (w75.heap.size+9)] [(BL w75),(BO w75),(4,i6 4)] ⟨w,w75.heap.size+10,[(A8 w),(Ad z),(Ac z b11 cp8),(Ae n9 b11 cp8),(Ca.Am c18 F74 (Ca.put (fun _=>[]) (((32:Int) / 4 % 4).toNat) (Ca.touch ((fun _=>[]) (((32:Int) / 4 % 4).toNat)) ((32:Int) / 4)))),(Tl.AA t22 F67 (AO [(⟨0,2,7⟩:Ag)])),(AZ w24 c18 t22),(Bc w24),(BJ w24 n9),(Ai w34),(Ah w34),(Aj w75),(Aw w75),(Ap w75),(Ak w75 nm),(Aq w75),(Ar w75 nm),(Au w75 nm),(Az w75),(BN w75),(bk (w75.heap.size+9) #[.func (.func 39) #[] #[],.func (.func 39) #[] #[],.func (.func 39) #[] #[],.func (.func 39) #[] #[],.nilFunc,.nilFunc,.nilFunc,.nilFunc,.nilFunc,.nilFunc,.nilFunc,.nilFunc,.nilFunc,.nilFunc,.nilFunc,.nilFunc,.nilFunc,.nilFunc,.nilFunc,.nilFunc,.nilFunc,.nilFunc,.nilFunc,.nilFunc,.nilFunc,.nilFunc,.nilFunc,.nilFunc,.nilFunc,.nilFunc,.nilFunc] 82)]⟩ rfl ⟨rfl,(by omega),rfl,rfl,Aa⟩ ?_
 refine AB ?_
 refine q_c 20 0 [1] [[o0],[o0,o0],[o0,(oi 4),(a1 20)],[o0,o0]] [(4:Int)=((4:Nat):Int),4<31,AU,Qb (w75.heap.size+9)] [(BL w75),(BO w75),(4,i6 5)] ⟨w,w75.heap.size+10,[(A8 w),(Ad z),(Ac z b11 cp8),(Ae n9 b11 cp8),(Ca.Am c18 F74 (Ca.put (fun _=>[]) (((32:Int) / 4 % 4).toNat) (Ca.touch ((fun _=>[]) (((32:Int) / 4 % 4).toNat)) ((32:Int) / 4)))),(Tl.AA t22 F67 (AO [(⟨0,2,7⟩:Ag)])),(AZ w24 c18 t22),(Bc w24),(BJ w24 n9),(Ai w34),(Ah w34),(Aj w75),(Aw w75),(Ap w75),(Ak w75 nm),(Aq w75),(Ar w75 nm),(Au w75 nm),(Az w75),(BN w75),(bk (w75.heap.size+9) #[.func (.func 39) #[] #[],.func (.func 39) #[] #[],.func (.func 39) #[] #[],.func (.func 39) #[] #[],.func (.func 39) #[] #[],.nilFunc,.nilFunc,.nilFunc,.nilFunc,.nilFunc,.nilFunc,.nilFunc,.nilFunc,.nilFunc,.nilFunc,.nilFunc,.nilFunc,.nilFunc,.nilFunc,.nilFunc,.nilFunc,.nilFunc,.nilFunc,.nilFunc,.nilFunc,.nilFunc,.nilFunc,.nilFunc,.nilFunc,.nilFunc,.nilFunc] 82)]⟩ rfl ⟨rfl,(by omega),rfl,rfl,Aa⟩ ?_
 refine AB ?_
 refine q_c 20 0 [1] [[o0],[o0,o0],[o0,(oi 5),(a1 20)],[o0,o0]] [(5:Int)=((5:Nat):Int),5<31,AU,Qb (w75.heap.size+9)] [(BL w75),(BO w75),(4,i6 6)] ⟨w,w75.heap.size+10,[(A8 w),(Ad z),(Ac z b11 cp8),(Ae n9 b11 cp8),(Ca.Am c18 F74 (Ca.put (fun _=>[]) (((32:Int) / 4 % 4).toNat) (Ca.touch ((fun _=>[]) (((32:Int) / 4 % 4).toNat)) ((32:Int) / 4)))),(Tl.AA t22 F67 (AO [(⟨0,2,7⟩:Ag)])),(AZ w24 c18 t22),(Bc w24),(BJ w24 n9),(Ai w34),(Ah w34),(Aj w75),(Aw w75),(Ap w75),(Ak w75 nm),(Aq w75),(Ar w75 nm),(Au w75 nm),(Az w75),(BN w75),(bk (w75.heap.size+9) #[.func (.func 39) #[] #[],.func (.func 39) #[] #[],.func (.func 39) #[] #[],.func (.func 39) #[] #[],.func (.func 39) #[] #[],.func (.func 39) #[] #[],.nilFunc,.nilFunc,.nilFunc,.nilFunc,.nilFunc,.nilFunc,.nilFunc,.nilFunc,.nilFunc,.nilFunc,.nilFunc,.nilFunc,.nilFunc,.nilFunc,.nilFunc,.nilFunc,.nilFunc,.nilFunc,.nilFunc,.nilFunc,.nilFunc,.nilFunc,.nilFunc,.nilFunc,.nilFunc] 82)]⟩ rfl ⟨rfl,(by omega),rfl,rfl,Aa⟩ ?_
 refine AB ?_
 refine q_c 20 0 [1] [[o0],[o0,o0],[o0,(oi 6),(a1 20)],[o0,o0]] [(6:Int)=((6:Nat):Int),6<31,AU,Qb (w75.heap.size+9)] [(BL w75),(BO w75),(4,i6 7)] ⟨w,w75.heap.size+10,[(A8 w),(Ad z),(Ac z b11 cp8),(Ae n9 b11 cp8),(Ca.Am c18 F74 (Ca.put (fun _=>[]) (((32:Int) / 4 % 4).toNat) (Ca.touch ((fun _=>[]) (((32:Int) / 4 % 4).toNat)) ((32:Int) / 4)))),(Tl.AA t22 F67 (AO [(⟨0,2,7⟩:Ag)])),(AZ w24 c18 t22),(Bc w24),(BJ w24 n9),(Ai w34),(Ah w34),(Aj w75),(Aw w75),(Ap w75),(Ak w75 nm),(Aq w75),(Ar w75 nm),(Au w75 nm),(Az w75),(BN w75),(bk (w75.heap.size+9) #[.func (.func 39) #[] #[],.func (.func 39) #[] #[],.func (.func 39) #[] #[],.func (.func 39) #[] #[],.func (.func 39) #[] #[],.func (.func 39) #[] #[],.func (.func 39) #[] #[],.nilFunc,.nilFunc,.nilFunc,.nilFunc,.nilFunc,.nilFunc,.nilFunc,.nilFunc,.nilFunc,.nilFunc,.nilFunc,.nilFunc,.nilFunc,.nilFunc,.nilFunc,.nilFunc,.nilFunc,.nilFunc,.nilFunc,.nilFunc,.nilFunc,.nilFunc,.nilFunc,.nilFunc] 82)]⟩ rfl ⟨rfl,(by omega),rfl,rfl,Aa⟩ ?_
 refine AB ?_
 refine q_c 20 0 [1] [[o0],[o0,o0],[o0,(oi 7),(a1 20)],[o0,o0]] [(7:Int)=((7:Nat):Int),7<31,AU,Qb (w75.heap.size+9)] [(BL w75),(BO w75),(4,i6 8)] ⟨w,w75.heap.size+10,[(A8 w),(Ad z),(Ac z b11 cp8),(Ae n9 b11 cp8),(Ca.Am c18 F74 (Ca.put (fun _=>[]) (((32:Int) / 4 % 4).toNat) (Ca.touch ((fun _=>[]) (((32:Int) / 4 % 4).toNat)) ((32:Int) / 4)))),(Tl.AA t22 F67 (AO [(⟨0,2,7⟩:Ag)])),(AZ w24 c18 t22),(Bc w24),(BJ w24 n9),(Ai w34),(Ah w34),(Aj w75),(Aw w75),(Ap w75),(Ak w75 nm),(Aq w75),(Ar w75 nm),(Au w75 nm),(Az w75),(BN w75),(bk (w75.heap.size+9) #[.func (.func 39) #[] #[],.func (.func 39) #[] #[],.func (.func 39) #[] #[],.func (.func 39) #[] #[],.func (.func 39) #[] #[],.func (.func 39) #[] #[],.func (.func 39) #[] #[],.func (.func 39) #[] #[],.nilFunc,.nilFunc,.nilFunc,.nilFunc,.nilFunc,.nilFunc,.nilFunc,.nilFunc,.nilFunc,.nilFunc,.nilFunc,.nilFunc,.nilFunc,.nilFunc,.nilFunc,.nilFunc,.nilFunc,.nilFunc,.nilFunc,.nilFunc,.nilFunc,.nilFunc,.nilFunc] 82)]⟩ rfl ⟨rfl,(by omega),rfl,rfl,Aa⟩ ?_
 refine AB ?_
 refine q_c 20 0 [1] [[o0],[o0,o0],[o0,(oi 8),(a1 20)],[o0,o0]] [(8:Int)=((8:Nat):Int),8<31,AU,Qb (w75.heap.size+9)] [(BL w75),(BO w75),(4,i6 9)] ⟨w,w75.heap.size+10,[(A8 w),(Ad z),(Ac z b11 cp8),(Ae n9 b11 cp8),(Ca.Am c18 F74 (Ca.put (fun _=>[]) (((32:Int) / 4 % 4).toNat) (Ca.touch ((fun _=>[]) (((32:Int) / 4 % 4).toNat)) ((32:Int) / 4)))),(Tl.AA t22 F67 (AO [(⟨0,2,7⟩:Ag)])),(AZ w24 c18 t22),(Bc w24),(BJ w24 n9),(Ai w34),(Ah w34),(Aj w75),(Aw w75),(Ap w75),(Ak w75 nm),(Aq w75),(Ar w75 nm),(Au w75 nm),(Az w75),(BN w75),(bk (w75.heap.size+9) #[.func (.func 39) #[] #[],.func (.func 39) #[] #[],.func (.func 39) #[] #[],.func (.func 39) #[] #[],.func (.func 39) #[] #[],.func (.func 39) #[] #[],.func (.func 39) #[] #[],.func (.func 39) #[] #[],.func (.func 39) #[] #[],.nilFunc,.nilFunc,.nilFunc,.nilFunc,.nilFunc,.nilFunc,.nilFunc,.nilFunc,.nilFunc,.nilFunc,.nilFunc,.nilFunc,.nilFunc,.nilFunc,.nilFunc,.nilFunc,.nilFunc,.nilFunc,.nilFunc,.nilFunc,.nilFunc,.nilFunc] 82)]⟩ rfl ⟨rfl,(by omega),rfl,rfl,Aa⟩ ?_
 refine AB ?_
 refine q_c 20 0 [1] [[o0],[o0,o0],[o0,(oi 9),(a1 20)],[o0,o0]] [(9:Int)=((9:Nat):Int),9<31,AU,Qb (w75.heap.size+9)] [(BL w75),(BO w75),(4,i6 10)] ⟨w,w75.heap.size+10,[(A8 w),(Ad z),(Ac z b11 cp8),(Ae n9 b11 cp8),(Ca.Am c18 F74 (Ca.put (fun _=>[]) (((32:Int) / 4 % 4).toNat) (Ca.touch ((fun _=>[]) (((32:Int) / 4 % 4).toNat)) ((32:Int) / 4)))),(Tl.AA t22 F67 (AO [(⟨0,2,7⟩:Ag)])),(AZ w24 c18 t22),(Bc w24),(BJ w24 n9),(Ai w34),(Ah w34),(Aj w75),(Aw w75),(Ap w75),(Ak w75 nm),(Aq w75),(Ar w75 nm),(Au w75 nm),(Az w75),(BN w75),(bk (w75.heap.size+9) #[.func (.func 39) #[] #[],.func (.func 39) #[] #[],.func (.func 39) #[] #[],.func (.func 39) #[] #[],.func (.func 39) #[] #[],.func (.func 39) #[] #[],.func (.func 39) #[] #[],.func (.func 39) #[] #[],.func (.func 39) #[] #[],.func (.func 39) #[] #[],.nilFunc,.nilFunc,.nilFunc,.nilFunc,.nilFunc,.nilFunc,.nilFunc,.nilFunc,.nilFunc,.nilFunc,.nilFunc,.nilFunc,.nilFunc,.nilFunc,.nilFunc,.nilFunc,.nilFunc,.nilFunc,.nilFunc,.nilFunc,.nilFunc] 82)]⟩ rfl ⟨rfl,(by omega),rfl,rfl,Aa⟩ ?_
 refine AB ?_
 refine q_c 20 0 [1] [[o0],[o0,o0],[o0,(oi 10),(a1 20)],[o0,o0]] [(10:Int)=((10:Nat):Int),10<31,AU,Qb (w75.heap.size+9)] [(BL w75),(BO w75),(4,i6 11)] ⟨w,w75.heap.size+10,[(A8 w),(Ad z),(Ac z b11 cp8),(Ae n9 b11 cp8),(Ca.Am c18 F74 (Ca.put (fun _=>[]) (((32:Int) / 4 % 4).toNat) (Ca.touch ((fun _=>[]) (((32:Int) / 4 % 4).toNat)) ((32:Int) / 4)))),(Tl.AA t22 F67 (AO [(⟨0,2,7⟩:Ag)])),(AZ w24 c18 t22),(Bc w24),(BJ w24 n9),(Ai w34),(Ah w34),(Aj w75),(Aw w75),(Ap w75),(Ak w75 nm),(Aq w75),(Ar w75 nm),(Au w75 nm),(Az w75),(BN w75),(bk (w75.heap.size+9) #[.func (.func 39) #[] #[],.func (.func 39) #[] #[],.func (.func 39) #[] #[],.func (.func 39) #[] #[],.func (.func 39) #[] #[],.func (.func 39) #[] #[],.func (.func 39) #[] #[],.func (.func 39) #[] #[],.func (.func 39) #[] #[],.func (.func 39) #[] #[],.func (.func 39) #[] #[],.nilFunc,.nilFunc,.nilFunc,.nilFunc,.nilFunc,.nilFunc,.nilFunc,.nilFunc,.nilFunc,.nilFunc,.nilFunc,.nilFunc,.nilFunc,.nilFunc,.nilFunc,.nilFunc,.nilFunc,.nilFunc,.nilFunc,.nilFunc] 82)]⟩ rfl ⟨rfl,(by omega),rfl,rfl,Aa⟩ ?_
 refine AB ?_
 refine q_c 20 0 [1] [[o0],[o0,o0],[o0,(oi 11),(a1 20)],[o0,o0]] [(11:Int)=((11:Nat):Int),11<31,AU,Qb (w75.heap.size+9)] [(BL w75),(BO w75),(4,i6 12)] ⟨w,w75.heap.size+10,[(A8 w),(Ad z),(Ac z b11 cp8),(Ae n9 b11 cp8),(Ca.Am c18 F74 (Ca.put (fun _=>[]) (((32:Int) / 4 % 4).toNat) (Ca.touch ((fun _=>[]) (((32:Int) / 4 % 4).toNat)) ((32:Int) / 4)))),(Tl.AA t22 F67 (AO [(⟨0,2,7⟩:Ag)])),(AZ w24 c18 t22),(Bc w24),(BJ w24 n9),(Ai w34),(Ah w34),(Aj w75),(Aw w75),(Ap w75),(Ak w75 nm),(Aq w75),(Ar w75 nm),(Au w75 nm),(Az w75),(BN w75),(bk (w75.heap.size+9) #[.func (.func 39) #[] #[],.func (.func 39) #[] #[],.func (.func 39) #[] #[],.func (.func 39) #[] #[],.func (.func 39) #[] #[],.func (.func 39) #[] #[],.func (.func 39) #[] #[],.func (.func 39) #[] #[],.func (.func 39) #[] #[],.func (.func 39) #[] #[],.func (.func 39) #[] #[],.func (.func 39) #[] #[],.nilFunc,.nilFunc,.nilFunc,.nilFunc,.nilFunc,.nilFunc,.nilFunc,.nilFunc,.nilFunc,.nilFunc,.nilFunc,.nilFunc,.nilFunc,.nilFunc,.nilFunc,.nilFunc,.nilFunc,.nilFunc,.nilFunc] 82)]⟩ rfl ⟨rfl,(by omega),rfl,rfl,Aa⟩ ?_
 refine AB ?_
 refine q_c 20 0 [1] [[o0],[o0,o0],[o0,(oi 12),(a1 20)],[o0,o0]] [(12:Int)=((12:Nat):Int),12<31,AU,Qb (w75.heap.size+9)] [(BL w75),(BO w75),(4,i6 13)] ⟨w,w75.heap.size+10,[(A8 w),(Ad z),(Ac z b11 cp8),(Ae n9 b11 cp8),(Ca.Am c18 F74 (Ca.put (fun _=>[]) (((32:Int) / 4 % 4).toNat) (Ca.touch ((fun _=>[]) (((32:Int) / 4 % 4).toNat)) ((32:Int) / 4)))),(Tl.AA t22 F67 (AO [(⟨0,2,7⟩:Ag)])),(AZ w24 c18 t22),(Bc w24),(BJ w24 n9),(Ai w34),(Ah w34),(Aj w75),(Aw w75),(Ap w75),(Ak w75 nm),(Aq w75),(Ar w75 nm),(Au w75 nm),(Az w75),(BN w75),(bk (w75.heap.size+9) #[.func (.func 39) #[] #[],.func (.func 39) #[] #[],.func (.func 39) #[] #[],.func (.func 39) #[] #[],.func (.func 39) #[] #[],.func (.func 39) #[] #[],.func (.func 39) #[] #[],.func (.func 39) #[] #[],.func (.func 39) #[] #[],.func (.func 39) #[] #[],.func (.func 39) #[] #[],.func (.func 39) #[] #[],.func (.func 39) #[] #[],.nilFunc,.nilFunc,.nilFunc,.nilFunc,.nilFunc,.nilFunc,.nilFunc,.nilFunc,.nilFunc,.nilFunc,.nilFunc,.nilFunc,.nilFunc,.nilFunc,.nilFunc,.nilFunc,.nilFunc,.nilFunc] 82)]⟩ rfl ⟨rfl,(by omega),rfl,rfl,Aa⟩ ?_
 refine AB ?_
 refine q_c 20 0 [1] [[o0],[o0,o0],[o0,(oi 13),(a1 20)],[o0,o0]] [(13:Int)=((13:Nat):Int),13<31,AU,Qb (w75.heap.size+9)] [(BL w75),(BO w75),(4,i6 14)] ⟨w,w75.heap.size+10,[(A8 w),(Ad z),(Ac z b11 cp8),(Ae n9 b11 cp8),(Ca.Am c18 F74 (Ca.put (fun _=>[]) (((32:Int) / 4 % 4).toNat) (Ca.touch ((fun _=>[]) (((32:Int) / 4 % 4).toNat)) ((32:Int) / 4)))),(Tl.AA t22 F67 (AO [(⟨0,2,7⟩:Ag)])),(AZ w24 c18 t22),(Bc w24),(BJ w24 n9),(Ai w34),(Ah w34),(Aj w75),(Aw w75),(Ap w75),(Ak w75 nm),(Aq w75),(Ar w75 nm),(Au w75 nm),(Az w75),(BN w75),(bk (w75.heap.size+9) #[.func (.func 39) #[] #[],.func (.func 39) #[] #[],.func (.func 39) #[] #[],.func (.func 39) #[] #[],.func (.func 39) #[] #[],.func (.func 39) #[] #[],.func (.func 39) #[] #[],.func (.func 39) #[] #[],.func (.func 39) #[] #[],.func (.func 39) #[] #[],.func (.func 39) #[] #[],.func (.func 39) #[] #[],.func (.func 39) #[] #[],.func (.func 39) #[] #[],.nilFunc,.nilFunc,.nilFunc,.nilFunc,.nilFunc,.nilFunc,.nilFunc,.nilFunc,.nilFunc,.nilFunc,.nilFunc,.nilFunc,.nilFunc,.nilFunc,.nilFunc,.nilFunc,.nilFunc] 82)]⟩ rfl ⟨rfl,(by omega),rfl,rfl,Aa⟩ ?_
 refine AB ?_
 refine q_c 20 0 [1] [[o0],[o0,o0],[o0,(oi 14),(a1 20)],[o0,o0]] [(14:Int)=((14:Nat):Int),14<31,AU,Qb (w75.heap.size+9)] [(BL w75),(BO w75),(4,i6 15)] ⟨w,w75.heap.size+10,[(A8 w),(Ad z),(Ac z b11 cp8),(Ae n9 b11 cp8),(Ca.Am c18 F74 (Ca.put (fun _=>[]) (((32:Int) / 4 % 4).toNat) (Ca.touch ((fun _=>[]) (((32:Int) / 4 % 4).toNat)) ((32:Int) / 4)))),(Tl.AA t22 F67 (AO [(⟨0,2,7⟩:Ag)])),(AZ w24 c18 t22),(Bc w24),(BJ w24 n9),(Ai w34),(Ah w34),(Aj w75),(Aw w75),(Ap w75),(Ak w75 nm),(Aq w75),(Ar w75 nm),(Au w75 nm),(Az w75),(BN w75),(bk (w75.heap.size+9) #[.func (.func 39) #[] #[],.func (.func 39) #[] #[],.func (.func 39) #[] #[],.func (.func 39) #[] #[],.func (.func 39) #[] #[],.func (.func 39) #[] #[],.func (.func 39) #[] #[],.func (.func 39) #[] #[],.func (.func 39) #[] #[],.func (.func 39) #[] #[],.func (.func 39) #[] #[],.func (.func 39) #[] #[],.func (.func 39) #[] #[],.func (.func 39) #[] #[],.func (.func 39) #[] #[],.nilFunc,.nilFunc,.nilFunc,.nilFunc,.nilFunc,.nilFunc,.nilFunc,.nilFunc,.nilFunc,.nilFunc,.nilFunc,.nilFunc,.nilFunc,.nilFunc,.nilFunc,.nilFunc] 82)]⟩ rfl ⟨rfl,(by omega),rfl,rfl,Aa⟩ ?_
 refine AB ?_
 refine q_c 20 0 [1] [[o0],[o0,o0],[o0,(oi 15),(a1 20)],[o0,o0]] [(15:Int)=((15:Nat):Int),15<31,AU,Qb (w75.heap.size+9)] [(BL w75),(BO w75),(4,i6 16)] ⟨w,w75.heap.size+10,[(A8 w),(Ad z),(Ac z b11 cp8),(Ae n9 b11 cp8),(Ca.Am c18 F74 (Ca.put (fun _=>[]) (((32:Int) / 4 % 4).toNat) (Ca.touch ((fun _=>[]) (((32:Int) / 4 % 4).toNat)) ((32:Int) / 4)))),(Tl.AA t22 F67 (AO [(⟨0,2,7⟩:Ag)])),(AZ w24 c18 t22),(Bc w24),(BJ w24 n9),(Ai w34),(Ah w34),(Aj w75),(Aw w75),(Ap w75),(Ak w75 nm),(Aq w75),(Ar w75 nm),(Au w75 nm),(Az w75),(BN w75),(bk (w75.heap.size+9) #[.func (.func 39) #[] #[],.func (.func 39) #[] #[],.func (.func 39) #[] #[],.func (.func 39) #[] #[],.func (.func 39) #[] #[],.func (.func 39) #[] #[],.func (.func 39) #[] #[],.func (.func 39) #[] #[],.func (.func 39) #[] #[],.func (.func 39) #[] #[],.func (.func 39) #[] #[],.func (.func 39) #[] #[],.func (.func 39) #[] #[],.func (.func 39) #[] #[],.func (.func 39) #[] #[],.func (.func 39) #[] #[],.nilFunc,.nilFunc,.nilFunc,.nilFunc,.nilFunc,.nilFunc,.nilFunc,.nilFunc,.nilFunc,.nilFunc,.nilFunc,.nilFunc,.nilFunc,.nilFunc,.nilFunc] 82)]⟩ rfl ⟨rfl,(by omega),rfl,rfl,Aa⟩ ?_
 refine AB ?_
 refine q_c 20 0 [1] [[o0],[o0,o0],[o0,(oi 16),(a1 20)],[o0,o0]] [(16:Int)=((16:Nat):Int),16<31,AU,Qb (w75.heap.size+9)] [(BL w75),(BO w75),(4,i6 17)] ⟨w,w75.heap.size+10,[(A8 w),(Ad z),(Ac z b11 cp8),(Ae n9 b11 cp8),(Ca.Am c18 F74 (Ca.put (fun _=>[]) (((32:Int) / 4 % 4).toNat) (Ca.touch ((fun _=>[]) (((32:Int) / 4 % 4).toNat)) ((32:Int) / 4)))),(Tl.AA t22 F67 (AO [(⟨0,2,7⟩:Ag)])),(AZ w24 c18 t22),(Bc w24),(BJ w24 n9),(Ai w34),(Ah w34),(Aj w75),(Aw w75),(Ap w75),(Ak w75 nm),(Aq w75),(Ar w75 nm),(Au w75 nm),(Az w75),(BN w75),(bk (w75.heap.size+9) #[.func (.func 39) #[] #[],.func (.func 39) #[] #[],.func (.func 39) #[] #[],.func (.func 39) #[] #[],.func (.func 39) #[] #[],.func (.func 39) #[] #[],.func (.func 39) #[] #[],.func (.func 39) #[] #[],.func (.func 39) #[] #[],.func (.func 39) #[] #[],.func (.func 39) #[] #[],.func (.func 39) #[] #[],.func (.func 39) #[] #[],.func (.func 39) #[] #[],.func (.func 39) #[] #[],.func (.func 39) #[] #[],.func (.func 39) #[] #[],.nilFunc,.nilFunc,.nilFunc,.nilFunc,.nilFunc,.nilFunc,.nilFunc,.nilFunc,.nilFunc,.nilFunc,.nilFunc,.nilFunc,.nilFunc,.nilFunc] 82)]⟩ rfl ⟨rfl,(by omega),rfl,rfl,Aa⟩ ?_
 refine AB ?_
 refine q_c 20 0 [1] [[o0],[o0,o0],[o0,(oi 17),(a1 20)],[o0,o0]] [(17:Int)=((17:Nat):Int),17<31,AU,Qb (w75.heap.size+9)] [(BL w75),(BO w75),(4,i6 18)] ⟨w,w75.heap.size+10,[(A8 w),(Ad z),(Ac z b11 cp8),(Ae n9 b11 cp8),(Ca.Am c18 F74 (Ca.put (fun _=>[]) (((32:Int) / 4 % 4).toNat) (Ca.touch ((fun _=>[]) (((32:Int) / 4 % 4).toNat)) ((32:Int) / 4)))),(Tl.AA t22 F67 (AO [(⟨0,2,7⟩:Ag)])),(AZ w24 c18 t22),(Bc w24),(BJ w24 n9),(Ai w34),(Ah w34),(Aj w75),(Aw w75),(Ap w75),(Ak w75 nm),(Aq w75),(Ar w75 nm),(Au w75 nm),(Az w75),(BN w75),(bk (w75.heap.size+9) #[.func (.func 39) #[] #[],.func (.func 39) #[] #[],.func (.func 39) #[] #[],.func (.func 39) #[] #[],.func (.func 39) #[] #[],.func (.func 39) #[] #[],.func (.func 39) #[] #[],.func (.func 39) #[] #[],.func (.func 39) #[] #[],.func (.func 39) #[] #[],.func (.func 39) #[] #[],.func (.func 39) #[] #[],.func (.func 39) #[] #[],.func (.func 39) #[] #[],.func (.func 39) #[] #[],.func (.func 39) #[] #[],.func (.func 39) #[] #[],.func (.func 39) #[] #[],.nilFunc,.nilFunc,.nilFunc,.nilFunc,.nilFunc,.nilFunc,.nilFunc,.nilFunc,.nilFunc,.nilFunc,.nilFunc,.nilFunc,.nilFunc] 82)]⟩ rfl ⟨rfl,(by omega),rfl,rfl,Aa⟩ ?_
 refine AB ?_
 refine q_c 20 0 [1] [[o0],[o0,o0],[o0,(oi 18),(a1 20)],[o0,o0]] [(18:Int)=((18:Nat):Int),18<31,AU,Qb (w75.heap.size+9)] [(BL w75),(BO w75),(4,i6 19)] ⟨w,w75.heap.size+10,[(A8 w),(Ad z),(Ac z b11 cp8),(Ae n9 b11 cp8),(Ca.Am c18 F74 (Ca.put (fun _=>[]) (((32:Int) / 4 % 4).toNat) (Ca.touch ((fun _=>[]) (((32:Int) / 4 % 4).toNat)) ((32:Int) / 4)))),(Tl.AA t22 F67 (AO [(⟨0,2,7⟩:Ag)])),(AZ w24 c18 t22),(Bc w24),(BJ w24 n9),(Ai w34),(Ah w34),(Aj w75),(Aw w75),(Ap w75),(Ak w75 nm),(Aq w75),(Ar w75 nm),(Au w75 nm),(Az w75),(BN w75),(bk (w75.heap.size+9) #[.func (.func 39) #[] #[],.func (.func 39) #[] #[],.func (.func 39) #[] #[],.func (.func 39) #[] #[],.func (.func 39) #[] #[],.func (.func 39) #[] #[],.func (.func 39) #[] #[],.func (.func 39) #[] #[],.func (.func 39) #[] #[],.func (.func 39) #[] #[],.func (.func 39) #[] #[],.func (.func 39) #[] #[],.func (.func 39) #[] #[],.func (.func 39) #[] #[],.func (.func 39) #[] #[],.func (.func 39) #[] #[],.func (.func 39) #[] #[],.func (.func 39) #[] #[],.func (.func 39) #[] #[],.nilFunc,.nilFunc,.nilFunc,.nilFunc,.nilFunc,.nilFunc,.nilFunc,.nilFunc,.nilFunc,.nilFunc,.nilFunc,.nilFunc] 82)]⟩ rfl ⟨rfl,(by omega),rfl,rfl,Aa⟩ ?_
 refine AB ?_
 refine q_c 20 0 [1] [[o0],[o0,o0],[o0,(oi 19),(a1 20)],[o0,o0]] [(19:Int)=((19:Nat):Int),19<31,AU,Qb (w75.heap.size+9)] [(BL w75),(BO w75),(4,i6 20)] ⟨w,w75.heap.size+10,[(A8 w),(Ad z),(Ac z b11 cp8),(Ae n9 b11 cp8),(Ca.Am c18 F74 (Ca.put (fun _=>[]) (((32:Int) / 4 % 4).toNat) (Ca.touch ((fun _=>[]) (((32:Int) / 4 % 4).toNat)) ((32:Int) / 4)))),(Tl.AA t22 F67 (AO [(⟨0,2,7⟩:Ag)])),(AZ w24 c18 t22),(Bc w24),(BJ w24 n9),(Ai w34),(Ah w34),(Aj w75),(Aw w75),(Ap w75),(Ak w75 nm),(Aq w75),(Ar w75 nm),(Au w75 nm),(Az w75),(BN w75),(bk (w75.heap.size+9) #[.func (.func 39) #[] #[],.func (.func 39) #[] #[],.func (.func 39) #[] #[],.func (.func 39) #[] #[],.func (.func 39) #[] #[],.func (.func 39) #[] #[],.func (.func 39) #[] #[],.func (.func 39) #[] #[],.func (.func 39) #[] #[],.func (.func 39) #[] #[],.func (.func 39) #[] #[],.func (.func 39) #[] #[],.func (.func 39) #[] #[],.func (.func 39) #[] #[],.func (.func 39) #[] #[],.func (.func 39) #[] #[],.func (.func 39) #[] #[],.func (.func 39) #[] #[],.func (.func 39) #[] #[],.func (.func 39) #[] #[],.nilFunc,.nilFunc,.nilFunc,.nilFunc,.nilFunc,.nilFunc,.nilFunc,.nilFunc,.nilFunc,.nilFunc,.nilFunc] 82)]⟩ rfl ⟨rfl,(by omega),rfl,rfl,Aa⟩ ?_
 refine AB ?_
 refine q_c 20 0 [1] [[o0],[o0,o0],[o0,(oi 20),(a1 20)],[o0,o0]] [(20:Int)=((20:Nat):Int),20<31,AU,Qb (w75.heap.size+9)] [(BL w75),(BO w75),(4,i6 21)] ⟨w,w75.heap.size+10,[(A8 w),(Ad z),(Ac z b11 cp8),(Ae n9 b11 cp8),(Ca.Am c18 F74 (Ca.put (fun _=>[]) (((32:Int) / 4 % 4).toNat) (Ca.touch ((fun _=>[]) (((32:Int) / 4 % 4).toNat)) ((32:Int) / 4)))),(Tl.AA t22 F67 (AO [(⟨0,2,7⟩:Ag)])),(AZ w24 c18 t22),(Bc w24),(BJ w24 n9),(Ai w34),(Ah w34),(Aj w75),(Aw w75),(Ap w75),(Ak w75 nm),(Aq w75),(Ar w75 nm),(Au w75 nm),(Az w75),(BN w75),(bk (w75.heap.size+9) #[.func (.func 39) #[] #[],.func (.func 39) #[] #[],.func (.func 39) #[] #[],.func (.func 39) #[] #[],.func (.func 39) #[] #[],.func (.func 39) #[] #[],.func (.func 39) #[] #[],.func (.func 39) #[] #[],.func (.func 39) #[] #[],.func (.func 39) #[] #[],.func (.func 39) #[] #[],.func (.func 39) #[] #[],.func (.func 39) #[] #[],.func (.func 39) #[] #[],.func (.func 39) #[] #[],.func (.func 39) #[] #[],.func (.func 39) #[] #[],.func (.func 39) #[] #[],.func (.func 39) #[] #[],.func (.func 39) #[] #[],.func (.func 39) #[] #[],.nilFunc,.nilFunc,.nilFunc,.nilFunc,.nilFunc,.nilFunc,.nilFunc,.nilFunc,.nilFunc,.nilFunc] 82)]⟩ rfl ⟨rfl,(by omega),rfl,rfl,Aa⟩ ?_
 refine AB ?_
 refine q_c 20 0 [1] [[o0],[o0,o0],[o0,(oi 21),(a1 20)],[o0,o0]] [(21:Int)=((21:Nat):Int),21<31,AU,Qb (w75.heap.size+9)] [(BL w75),(BO w75),(4,i6 22)] ⟨w,w75.heap.size+10,[(A8 w),(Ad z),(Ac z b11 cp8),(Ae n9 b11 cp8),(Ca.Am c18 F74 (Ca.put (fun _=>[]) (((32:Int) / 4 % 4).toNat) (Ca.touch ((fun _=>[]) (((32:Int) / 4 % 4).toNat)) ((32:Int) / 4)))),(Tl.AA t22 F67 (AO [(⟨0,2,7⟩:Ag)])),(AZ w24 c18 t22),(Bc w24),(BJ w24 n9),(Ai w34),(Ah w34),(Aj w75),(Aw w75),(Ap w75),(Ak w75 nm),(Aq w75),(Ar w75 nm),(Au w75 nm),(Az w75),(BN w75),(bk (w75.heap.size+9) #[.func (.func 39) #[] #[],.func (.func 39) #[] #[],.func (.func 39) #[] #[],.func (.func 39) #[] #[],.func (.func 39) #[] #[],.func (.func 39) #[] #[],.func (.func 39) #[] #[],.func (.func 39) #[] #[],.func (.func 39) #[] #[],.func (.func 39) #[] #[],.func (.func 39) #[] #[],.func (.func 39) #[] #[],.func (.func 39) #[] #[],.func (.func 39) #[] #[],.func (.func 39) #[] #[],.func (.func 39) #[] #[],.func (.func 39) #[] #[],.func (.func 39) #[] #[],.func (.func 39) #[] #[],.func (.func 39) #[] #[],.func (.func 39) #[] #[],.func (.func 39) #[] #[],.nilFunc,.nilFunc,.nilFunc,.nilFunc,.nilFunc,.nilFunc,.nilFunc,.nilFunc,.nilFunc] 82)]⟩ rfl ⟨rfl,(by omega),rfl,rfl,Aa⟩ ?_
 refine AB ?_
 refine q_c 20 0 [1] [[o0],[o0,o0],[o0,(oi 22),(a1 20)],[o0,o0]] [(22:Int)=((22:Nat):Int),22<31,AU,Qb (w75.heap.size+9)] [(BL w75),(BO w75),(4,i6 23)] ⟨w,w75.heap.size+10,[(A8 w),(Ad z),(Ac z b11 cp8),(Ae n9 b11 cp8),(Ca.Am c18 F74 (Ca.put (fun _=>[]) (((32:Int) / 4 % 4).toNat) (Ca.touch ((fun _=>[]) (((32:Int) / 4 % 4).toNat)) ((32:Int) / 4)))),(Tl.AA t22 F67 (AO [(⟨0,2,7⟩:Ag)])),(AZ w24 c18 t22),(Bc w24),(BJ w24 n9),(Ai w34),(Ah w34),(Aj w75),(Aw w75),(Ap w75),(Ak w75 nm),(Aq w75),(Ar w75 nm),(Au w75 nm),(Az w75),(BN w75),(bk (w75.heap.size+9) #[.func (.func 39) #[] #[],.func (.func 39) #[] #[],.func (.func 39) #[] #[],.func (.func 39) #[] #[],.func (.func 39) #[] #[],.func (.func 39) #[] #[],.func (.func 39) #[] #[],.func (.func 39) #[] #[],.func (.func 39) #[] #[],.func (.func 39) #[] #[],.func (.func 39) #[] #[],.func (.func 39) #[] #[],.func (.func 39) #[] #[],.func (.func 39) #[] #[],.func (.func 39) #[] #[],.func (.func 39) #[] #[],.func (.func 39) #[] #[],.func (.func 39) #[] #[],.func (.func 39) #[] #[],.func (.func 39) #[] #[],.func (.func 39) #[] #[],.func (.func 39) #[] #[],.func (.func 39) #[] #[],.nilFunc,.nilFunc,.nilFunc,.nilFunc,.nilFunc,.nilFunc,.nilFunc,.nilFunc] 82)]⟩ rfl ⟨rfl,(by omega),rfl,rfl,Aa⟩ ?_
 refine AB ?_
 refine q_c 20 0 [1] [[o0],[o0,o0],[o0,(oi 23),(a1 20)],[o0,o0]] [(23:Int)=((23:Nat):Int),23<31,AU,Qb (w75.heap.size+9)] [(BL w75),(BO w75),(4,i6 24)] ⟨w,w75.heap.size+10,[(A8 w),(Ad z),(Ac z b11 cp8),(Ae n9 b11 cp8),(Ca.Am c18 F74 (Ca.put (fun _=>[]) (((32:Int) / 4 % 4).toNat) (Ca.touch ((fun _=>[]) (((32:Int) / 4 % 4).toNat)) ((32:Int) / 4)))),(Tl.AA t22 F67 (AO [(⟨0,2,7⟩:Ag)])),(AZ w24 c18 t22),(Bc w24),(BJ w24 n9),(Ai w34),(Ah w34),(Aj w75),(Aw w75),(Ap w75),(Ak w75 nm),(Aq w75),(Ar w75 nm),(Au w75 nm),(Az w75),(BN w75),(bk (w75.heap.size+9) #[.func (.func 39) #[] #[],.func (.func 39) #[] #[],.func (.func 39) #[] #[],.func (.func 39) #[] #[],.func (.func 39) #[] #[],.func (.func 39) #[] #[],.func (.func 39) #[] #[],.func (.func 39) #[] #[],.func (.func 39) #[] #[],.func (.func 39) #[] #[],.func (.func 39) #[] #[],.func (.func 39) #[] #[],.func (.func 39) #[] #[],.func (.func 39) #[] #[],.func (.func 39) #[] #[],.func (.func 39) #[] #[],.func (.func 39) #[] #[],.func (.func 39) #[] #[],.func (.func 39) #[] #[],.func (.func 39) #[] #[],.func (.func 39) #[] #[],.func (.func 39) #[] #[],.func (.func 39) #[] #[],.func (.func 39) #[] #[],.nilFunc,.nilFunc,.nilFunc,.nilFunc,.nilFunc,.nilFunc,.nilFunc] 82)]⟩ rfl ⟨rfl,(by omega),rfl,rfl,Aa⟩ ?_
 refine AB ?_
 refine q_c 20 0 [1] [[o0],[o0,o0],[o0,(oi 24),(a1 20)],[o0,o0]] [(24:Int)=((24:Nat):Int),24<31,AU,Qb (w75.heap.size+9)] [(BL w75),(BO w75),(4,i6 25)] ⟨w,w75.heap.size+10,[(A8 w),(Ad z),(Ac z b11 cp8),(Ae n9 b11 cp8),(Ca.Am c18 F74 (Ca.put (fun _=>[]) (((32:Int) / 4 % 4).toNat) (Ca.touch ((fun _=>[]) (((32:Int) / 4 % 4).toNat)) ((32:Int) / 4)))),(Tl.AA t22 F67 (AO [(⟨0,2,7⟩:Ag)])),(AZ w24 c18 t22),(Bc w24),(BJ w24 n9),(Ai w34),(Ah w34),(Aj w75),(Aw w75),(Ap w75),(Ak w75 nm),(Aq w75),(Ar w75 nm),(Au w75 nm),(Az w75),(BN w75),(bk (w75.heap.size+9) #[.func (.func 39) #[] #[],.func (.func 39) #[] #[],.func (.func 39) #[] #[],.func (.func 39) #[] #[],.func (.func 39) #[] #[],.func (.func 39) #[] #[],.func (.func 39) #[] #[],.func (.func 39) #[] #[],.func (.func 39) #[] #[],.func (.func 39) #[] #[],.func (.func 39) #[] #[],.func (.func 39) #[] #[],.func (.func 39) #[] #[],.func (.func 39) #[] #[],.func (.func 39) #[] #[],.func (.func 39) #[] #[],.func (.func 39) #[] #[],.func (.func 39) #[] #[],.func (.func 39) #[] #[],.func (.func 39) #[] #[],.func (.func 39) #[] #[],.func (.func 39) #[] #[],.func (.func 39) #[] #[],.func (.func 39) #[] #[],.func (.func 39) #[] #[],.nilFunc,.nilFunc,.nilFunc,.nilFunc,.nilFunc,.nilFunc] 82)]⟩ rfl ⟨rfl,(by omega),rfl,rfl,Aa⟩ ?_
 refine AB ?_
 refine q_c 20 0 [1] [[o0],[o0,o0],[o0,(oi 25),(a1 20)],[o0,o0]] [(25:Int)=((25:Nat):Int),25<31,AU,Qb (w75.heap.size+9)] [(BL w75),(BO w75),(4,i6 26)] ⟨w,w75.heap.size+10,[(A8 w),(Ad z),(Ac z b11 cp8),(Ae n9 b11 cp8),(Ca.Am c18 F74 (Ca.put (fun _=>[]) (((32:Int) / 4 % 4).toNat) (Ca.touch ((fun _=>[]) (((32:Int) / 4 % 4).toNat)) ((32:Int) / 4)))),(Tl.AA t22 F67 (AO [(⟨0,2,7⟩:Ag)])),(AZ w24 c18 t22),(Bc w24),(BJ w24 n9),(Ai w34),(Ah w34),(Aj w75),(Aw w75),(Ap w75),(Ak w75 nm),(Aq w75),(Ar w75 nm),(Au w75 nm),(Az w75),(BN w75),(bk (w75.heap.size+9) #[.func (.func 39) #[] #[],.func (.func 39) #[] #[],.func (.func 39) #[] #[],.func (.func 39) #[] #[],.func (.func 39) #[] #[],.func (.func 39) #[] #[],.func (.func 39) #[] #[],.func (.func 39) #[] #[],.func (.func 39) #[] #[],.func (.func 39) #[] #[],.func (.func 39) #[] #[],.func (.func 39) #[] #[],.func (.func 39) #[] #[],.func (.func 39) #[] #[],.func (.func 39) #[] #[],.func (.func 39) #[] #[],.func (.func 39) #[] #[],.func (.func 39) #[] #[],.func (.func 39) #[] #[],.func (.func 39) #[] #[],.func (.func 39) #[] #[],.func (.func 39) #[] #[],.func (.func 39) #[] #[],.func (.func 39) #[] #[],.func (.func 39) #[] #[],.func (.func 39) #[] #[],.nilFunc,.nilFunc,.nilFunc,.nilFunc,.nilFunc] 82)]⟩ rfl ⟨rfl,(by omega),rfl,rfl,Aa⟩ ?_
 refine AB ?_
 refine q_c 20 0 [1] [[o0],[o0,o0],[o0,(oi 26),(a1 20)],[o0,o0]] [(26:Int)=((26:Nat):Int),26<31,AU,Qb (w75.heap.size+9)] [(BL w75),(BO w75),(4,i6 27)] ⟨w,w75.heap.size+10,[(A8 w),(Ad z),(Ac z b11 cp8),(Ae n9 b11 cp8),(Ca.Am c18 F74 (Ca.put (fun _=>[]) (((32:Int) / 4 % 4).toNat) (Ca.touch ((fun _=>[]) (((32:Int) / 4 % 4).toNat)) ((32:Int) / 4)))),(Tl.AA t22 F67 (AO [(⟨0,2,7⟩:Ag)])),(AZ w24 c18 t22),(Bc w24),(BJ w24 n9),(Ai w34),(Ah w34),(Aj w75),(Aw w75),(Ap w75),(Ak w75 nm),(Aq w75),(Ar w75 nm),(Au w75 nm),(Az w75),(BN w75),(bk (w75.heap.size+9) #[.func (.func 39) #[] #[],.func (.func 39) #[] #[],.func (.func 39) #[] #[],.func (.func 39) #[] #[],.func (.func 39) #[] #[],.func (.func 39) #[] #[],.func (.func 39) #[] #[],.func (.func 39) #[] #[],.func (.func 39) #[] #[],.func (.func 39) #[] #[],.func (.func 39) #[] #[],.func (.func 39) #[] #[],.func (.func 39) #[] #[],.func (.func 39) #[] #[],.func (.func 39) #[] #[],.func (.func 39) #[] #[],.func (.func 39) #[] #[],.func (.func 39) #[] #[],.func (.func 39) #[] #[],.func (.func 39) #[] #[],.func (.func 39) #[] #[],.func (.func 39) #[] #[],.func (.func 39) #[] #[],.func (.func 39) #[] #[],.func (.func 39) #[] #[],.func (.func 39) #[] #[],.func (.func 39) #[] #[],.nilFunc,.nilFunc,.nilFunc,.nilFunc] 82)]⟩ rfl ⟨rfl,(by omega),rfl,rfl,Aa⟩ ?_
 refine AB ?_
 refine q_c 20 0 [1] [[o0],[o0,o0],[o0,(oi 27),(a1 20)],[o0,o0]] [(27:Int)=((27:Nat):Int),27<31,AU,Qb (w75.heap.size+9)] [(BL w75),(BO w75),(4,i6 28)] ⟨w,w75.heap.size+10,[(A8 w),(Ad z),(Ac z b11 cp8),(Ae n9 b11 cp8),(Ca.Am c18 F74 (Ca.put (fun _=>[]) (((32:Int) / 4 % 4).toNat) (Ca.touch ((fun _=>[]) (((32:Int) / 4 % 4).toNat)) ((32:Int) / 4)))),(Tl.AA t22 F67 (AO [(⟨0,2,7⟩:Ag)])),(AZ w24 c18 t22),(Bc w24),(BJ w24 n9),(Ai w34),(Ah w34),(Aj w75),(Aw w75),(Ap w75),(Ak w75 nm),(Aq w75),(Ar w75 nm),(Au w75 nm),(Az w75),(BN w75),(bk (w75.heap.size+9) #[.func (.func 39) #[] #[],.func (.func 39) #[] #[],.func (.func 39) #[] #[],.func (.func 39) #[] #[],.func (.func 39) #[] #[],.func (.func 39) #[] #[],.func (.func 39) #[] #[],.func (.func 39) #[] #[],.func (.func 39) #[] #[],.func (.func 39) #[] #[],.func (.func 39) #[] #[],.func (.func 39) #[] #[],.func (.func 39) #[] #[],.func (.func 39) #[] #[],.func (.func 39) #[] #[],.func (.func 39) #[] #[],.func (.func 39) #[] #[],.func (.func 39) #[] #[],.func (.func 39) #[] #[],.func (.func 39) #[] #[],.func (.func 39) #[] #[],.func (.func 39) #[] #[],.func (.func 39) #[] #[],.func (.func 39) #[] #[],.func (.func 39) #[] #[],.func (.func 39) #[] #[],.func (.func 39) #[] #[],.func (.func 39) #[] #[],.nilFunc,.nilFunc,.nilFunc] 82)]⟩ rfl ⟨rfl,(by omega),rfl,rfl,Aa⟩ ?_
 refine AB ?_
 refine q_c 20 0 [1] [[o0],[o0,o0],[o0,(oi 28),(a1 20)],[o0,o0]] [(28:Int)=((28:Nat):Int),28<31,AU,Qb (w75.heap.size+9)] [(BL w75),(BO w75),(4,i6 29)] ⟨w,w75.heap.size+10,[(A8 w),(Ad z),(Ac z b11 cp8),(Ae n9 b11 cp8),(Ca.Am c18 F74 (Ca.put (fun _=>[]) (((32:Int) / 4 % 4).toNat) (Ca.touch ((fun _=>[]) (((32:Int) / 4 % 4).toNat)) ((32:Int) / 4)))),(Tl.AA t22 F67 (AO [(⟨0,2,7⟩:Ag)])),(AZ w24 c18 t22),(Bc w24),(BJ w24 n9),(Ai w34),(Ah w34),(Aj w75),(Aw w75),(Ap w75),(Ak w75 nm),(Aq w75),(Ar w75 nm),(Au w75 nm),(Az w75),(BN w75),(bk (w75.heap.size+9) #[.func (.func 39) #[] #[],.func (.func 39) #[] #[],.func (.func 39) #[] #[],.func (.func 39) #[] #[],.func (.func 39) #[] #[],.func (.func 39) #[] #[],.func (.func 39) #[] #[],.func (.func 39) #[] #[],.func (.func 39) #[] #[],.func (.func 39) #[] #[],.func (.func 39) #[] #[],.func (.func 39) #[] #[],.func (.func 39) #[] #[],.func (.func 39) #[] #[],.func (.func 39) #[] #[],.func (.func 39) #[] #[],.func (.func 39) #[] #[],.func (.func 39) #[] #[],.func (.func 39) #[] #[],.func (.func 39) #[] #[],.func (.func 39) #[] #[],.func (.func 39) #[] #[],.func (.func 39) #[] #[],.func (.func 39) #[] #[],.func (.func 39) #[] #[],.func (.func 39) #[] #[],.func (.func 39) #[] #[],.func (.func 39) #[] #[],.func (.func 39) #[] #[],.nilFunc,.nilFunc] 82)]⟩ rfl ⟨rfl,(by omega),rfl,rfl,Aa⟩ ?_
 refine AB ?_
 refine q_c 20 0 [1] [[o0],[o0,o0],[o0,(oi 29),(a1 20)],[o0,o0]] [(29:Int)=((29:Nat):Int),29<31,AU,Qb (w75.heap.size+9)] [(BL w75),(BO w75),(4,i6 30)] ⟨w,w75.heap.size+10,[(A8 w),(Ad z),(Ac z b11 cp8),(Ae n9 b11 cp8),(Ca.Am c18 F74 (Ca.put (fun _=>[]) (((32:Int) / 4 % 4).toNat) (Ca.touch ((fun _=>[]) (((32:Int) / 4 % 4).toNat)) ((32:Int) / 4)))),(Tl.AA t22 F67 (AO [(⟨0,2,7⟩:Ag)])),(AZ w24 c18 t22),(Bc w24),(BJ w24 n9),(Ai w34),(Ah w34),(Aj w75),(Aw w75),(Ap w75),(Ak w75 nm),(Aq w75),(Ar w75 nm),(Au w75 nm),(Az w75),(BN w75),(bk (w75.heap.size+9) #[.func (.func 39) #[] #[],.func (.func 39) #[] #[],.func (.func 39) #[] #[],.func (.func 39) #[] #[],.func (.func 39) #[] #[],.func (.func 39) #[] #[],.func (.func 39) #[] #[],.func (.func 39) #[] #[],.func (.func 39) #[] #[],.func (.func 39) #[] #[],.func (.func 39) #[] #[],.func (.func 39) #[] #[],.func (.func 39) #[] #[],.func (.func 39) #[] #[],.func (.func 39) #[] #[],.func (.func 39) #[] #[],.func (.func 39) #[] #[],.func (.func 39) #[] #[],.func (.func 39) #[] #[],.func (.func 39) #[] #[],.func (.func 39) #[] #[],.func (.func 39) #[] #[],.func (.func 39) #[] #[],.func (.func 39) #[] #[],.func (.func 39) #[] #[],.func (.func 39) #[] #[],.func (.func 39) #[] #[],.func (.func 39) #[] #[],.func (.func 39) #[] #[],.func (.func 39) #[] #[],.nilFunc] 82)]⟩ rfl ⟨rfl,(by omega),rfl,rfl,Aa⟩ ?_
 refine AB ?_
 refine q_c 20 0 [1] [[o0],[o0,o0],[o0,(oi 30),(a1 20)],[o0,o0]] [(30:Int)=((30:Nat):Int),30<31,AU,Qb (w75.heap.size+9)] [(BL w75),(BO w75),(4,i6 31)] ⟨w,w75.heap.size+10,[(A8 w),(Ad z),(Ac z b11 cp8),(Ae n9 b11 cp8),(Ca.Am c18 F74 (Ca.put (fun _=>[]) (((32:Int) / 4 % 4).toNat) (Ca.touch ((fun _=>[]) (((32:Int) / 4 % 4).toNat)) ((32:Int) / 4)))),(Tl.AA t22 F67 (AO [(⟨0,2,7⟩:Ag)])),(AZ w24 c18 t22),(Bc w24),(BJ w24 n9),(Ai w34),(Ah w34),(Aj w75),(Aw w75),(Ap w75),(Ak w75 nm),(Aq w75),(Ar w75 nm),(Au w75 nm),(Az w75),(BN w75),(bk (w75.heap.size+9) #[.func (.func 39) #[] #[],.func (.func 39) #[] #[],.func (.func 39) #[] #[],.func (.func 39) #[] #[],.func (.func 39) #[] #[],.func (.func 39) #[] #[],.func (.func 39) #[] #[],.func (.func 39) #[] #[],.func (.func 39) #[] #[],.func (.func 39) #[] #[],.func (.func 39) #[] #[],.func (.func 39) #[] #[],.func (.func 39) #[] #[],.func (.func 39) #[] #[],.func (.func 39) #[] #[],.func (.func 39) #[] #[],.func (.func 39) #[] #[],.func (.func 39) #[] #[],.func (.func 39) #[] #[],.func (.func 39) #[] #[],.func (.func 39) #[] #[],.func (.func 39) #[] #[],.func (.func 39) #[] #[],.func (.func 39) #[] #[],.func (.func 39) #[] #[],.func (.func 39) #[] #[],.func (.func 39) #[] #[],.func (.func 39) #[] #[],.func (.func 39) #[] #[],.func (.func 39) #[] #[],.func (.func 39) #[] #[]] 82)]⟩ rfl ⟨rfl,(by omega),rfl,rfl,Aa⟩ ?_
 refine AB ?_
 refine q_c 33 0 [0] [[o0],[(oi 1),(a1 20)],[(oi 2),(a1 20),(oi 3),(a1 20),(oi 4),(a1 20)],[(oi 18),(a1 20)],[(oi 19),(a1 20),(oi 20),(a1 20)],[o0]] [(1:Int)=((1:Nat):Int),1<31,AU,Qb (w75.heap.size+9),(2:Int)=((2:Nat):Int),2<31,AU,Qb (w75.heap.size+9),(3:Int)=((3:Nat):Int),3<31,AU,Qb (w75.heap.size+9),(4:Int)=((4:Nat):Int),4<31,AU,Qb (w75.heap.size+9),(18:Int)=((18:Nat):Int),18<31,AU,Qb (w75.heap.size+9),(19:Int)=((19:Nat):Int),19<31,AU,Qb (w75.heap.size+9),(20:Int)=((20:Nat):Int),20<31,AU,Qb (w75.heap.size+9)] [(BL w75),(BO w75),(3,i6 21)] ⟨w,w75.heap.size+10,[(A8 w),(Ad z),(Ac z b11 cp8),(Ae n9 b11 cp8),(Ca.Am c18 F74 (Ca.put (fun _=>[]) (((32:Int) / 4 % 4).toNat) (Ca.touch ((fun _=>[]) (((32:Int) / 4 % 4).toNat)) ((32:Int) / 4)))),(Tl.AA t22 F67 (AO [(⟨0,2,7⟩:Ag)])),(AZ w24 c18 t22),(Bc w24),(BJ w24 n9),(Ai w34),(Ah w34),(Aj w75),(Aw w75),(Ap w75),(Ak w75 nm),(Aq w75),(Ar w75 nm),(Au w75 nm),(Az w75),(BN w75),(bk (w75.heap.size+9) #[.func (.func 39) #[] #[],.func (.func 40) #[] #[],.func (.func 41) #[] #[],.func (.func 42) #[] #[],.func (.func 43) #[] #[],.func (.func 39) #[] #[],.func (.func 39) #[] #[],.func (.func 39) #[] #[],.func (.func 39) #[] #[],.func (.func 39) #[] #[],.func (.func 39) #[] #[],.func (.func 39) #[] #[],.func (.func 39) #[] #[],.func (.func 39) #[] #[],.func (.func 39) #[] #[],.func (.func 39) #[] #[],.func (.func 39) #[] #[],.func (.func 39) #[] #[],.func (.func 44) #[] #[],.func (.func 45) #[] #[],.func (.func 46) #[] #[],.func (.func 39) #[] #[],.func (.func 39) #[] #[],.func (.func 39) #[] #[],.func (.func 39) #[] #[],.func (.func 39) #[] #[],.func (.func 39) #[] #[],.func (.func 39) #[] #[],.func (.func 39) #[] #[],.func (.func 39) #[] #[],.func (.func 39) #[] #[]] 82)]⟩ rfl ⟨rfl,(by omega),rfl,rfl,rfl,(by omega),rfl,rfl,rfl,(by omega),rfl,rfl,rfl,(by omega),rfl,rfl,rfl,(by omega),rfl,rfl,rfl,(by omega),rfl,rfl,rfl,(by omega),rfl,rfl,Aa⟩ ?_
 refine FQ 40 ?_
 refine q_c 16 0 [1] [[o0,o0],[o0,(oi 21),(a1 20)],[o0,o0,o0]] [(21:Int)=((21:Nat):Int),21<31,AU,Qb (w75.heap.size+9)] [(BL w75),(BO w75),(3,i6 22)] ⟨w,w75.heap.size+10,[(A8 w),(Ad z),(Ac z b11 cp8),(Ae n9 b11 cp8),(Ca.Am c18 F74 (Ca.put (fun _=>[]) (((32:Int) / 4 % 4).toNat) (Ca.touch ((fun _=>[]) (((32:Int) / 4 % 4).toNat)) ((32:Int) / 4)))),(Tl.AA t22 F67 (AO [(⟨0,2,7⟩:Ag)])),(AZ w24 c18 t22),(Bc w24),(BJ w24 n9),(Ai w34),(Ah w34),(Aj w75),(Aw w75),(Ap w75),(Ak w75 nm),(Aq w75),(Ar w75 nm),(Au w75 nm),(Az w75),(BN w75),(bk (w75.heap.size+9) #[.func (.func 39) #[] #[],.func (.func 40) #[] #[],.func (.func 41) #[] #[],.func (.func 42) #[] #[],.func (.func 43) #[] #[],.func (.func 39) #[] #[],.func (.func 39) #[] #[],.func (.func 39) #[] #[],.func (.func 39) #[] #[],.func (.func 39) #[] #[],.func (.func 39) #[] #[],.func (.func 39) #[] #[],.func (.func 39) #[] #[],.func (.func 39) #[] #[],.func (.func 39) #[] #[],.func (.func 39) #[] #[],.func (.func 39) #[] #[],.func (.func 39) #[] #[],.func (.func 44) #[] #[],.func (.func 45) #[] #[],.func (.func 46) #[] #[],.func (.func 47) #[] #[],.func (.func 39) #[] #[],.func (.func 39) #[] #[],.func (.func 39) #[] #[],.func (.func 39) #[] #[],.func (.func 39) #[] #[],.func (.func 39) #[] #[],.func (.func 39) #[] #[],.func (.func 39) #[] #[],.func (.func 39) #[] #[]] 82)]⟩ rfl ⟨rfl,(by omega),rfl,rfl,Aa⟩ ?_
 refine AB ?_
 refine q_c 16 0 [1] [[o0,o0],[o0,(oi 22),(a1 20)],[o0,o0,o0]] [(22:Int)=((22:Nat):Int),22<31,AU,Qb (w75.heap.size+9)] [(BL w75),(BO w75),(3,i6 23)] ⟨w,w75.heap.size+10,[(A8 w),(Ad z),(Ac z b11 cp8),(Ae n9 b11 cp8),(Ca.Am c18 F74 (Ca.put (fun _=>[]) (((32:Int) / 4 % 4).toNat) (Ca.touch ((fun _=>[]) (((32:Int) / 4 % 4).toNat)) ((32:Int) / 4)))),(Tl.AA t22 F67 (AO [(⟨0,2,7⟩:Ag)])),(AZ w24 c18 t22),(Bc w24),(BJ w24 n9),(Ai w34),(Ah w34),(Aj w75),(Aw w75),(Ap w75),(Ak w75 nm),(Aq w75),(Ar w75 nm),(Au w75 nm),(Az w75),(BN w75),(bk (w75.heap.size+9) #[.func (.func 39) #[] #[],.func (.func 40) #[] #[],.func (.func 41) #[] #[],.func (.func 42) #[] #[],.func (.func 43) #[] #[],.func (.func 39) #[] #[],.func (.func 39) #[] #[],.func (.func 39) #[] #[],.func (.func 39) #[] #[],.func (.func 39) #[] #[],.func (.func 39) #[] #[],.func (.func 39) #[] #[],.func (.func 39) #[] #[],.func (.func 39) #[] #[],.func (.func 39) #[] #[],.func (.func 39) #[] #[],.func (.func 39) #[] #[],.func (.func 39) #[] #[],.func (.func 44) #[] #[],.func (.func 45) #[] #[],.func (.func 46) #[] #[],.func (.func 47) #[] #[],.func (.func 47) #[] #[],.func (.func 39) #[] #[],.func (.func 39) #[] #[],.func (.func 39) #[] #[],.func (.func 39) #[] #[],.func (.func 39) #[] #[],.func (.func 39) #[] #[],.func (.func 39) #[] #[],.func (.func 39) #[] #[]] 82)]⟩ rfl ⟨rfl,(by omega),rfl,rfl,Aa⟩ ?_
 refine AB ?_
 refine q_c 16 0 [1] [[o0,o0],[o0,(oi 23),(a1 20)],[o0,o0,o0]] [(23:Int)=((23:Nat):Int),23<31,AU,Qb (w75.heap.size+9)] [(BL w75),(BO w75),(3,i6 24)] ⟨w,w75.heap.size+10,[(A8 w),(Ad z),(Ac z b11 cp8),(Ae n9 b11 cp8),(Ca.Am c18 F74 (Ca.put (fun _=>[]) (((32:Int) / 4 % 4).toNat) (Ca.touch ((fun _=>[]) (((32:Int) / 4 % 4).toNat)) ((32:Int) / 4)))),(Tl.AA t22 F67 (AO [(⟨0,2,7⟩:Ag)])),(AZ w24 c18 t22),(Bc w24),(BJ w24 n9),(Ai w34),(Ah w34),(Aj w75),(Aw w75),(Ap w75),(Ak w75 nm),(Aq w75),(Ar w75 nm),(Au w75 nm),(Az w75),(BN w75),(bk (w75.heap.size+9) #[.func (.func 39) #[] #[],.func (.func 40) #[] #[],.func (.func 41) #[] #[],.func (.func 42) #[] #[],.func (.func 43) #[] #[],.func (.func 39) #[] #[],.func (.func 39) #[] #[],.func (.func 39) #[] #[],.func (.func 39) #[] #[],.func (.func 39) #[] #[],.func (.func 39) #[] #[],.func (.func 39) #[] #[],.func (.func 39) #[] #[],.func (.func 39) #[] #[],.func (.func 39) #[] #[],.func (.func 39) #[] #[],.func (.func 39) #[] #[],.func (.func 39) #[] #[],.func (.func 44) #[] #[],.func (.func 45) #[] #[],.func (.func 46) #[] #[],.func (.func 47) #[] #[],.func (.func 47) #[] #[],.func (.func 47) #[] #[],.func (.func 39) #[] #[],.func (.func 39) #[] #[],.func (.func 39) #[] #[],.func (.func 39) #[] #[],.func (.func 39) #[] #[],.func (.func 39) #[] #[],.func (.func 39) #[] #[]] 82)]⟩ rfl ⟨rfl,(by omega),rfl,rfl,Aa⟩ ?_
 refine AB ?_
 refine q_c 16 0 [1] [[o0,o0],[o0,(oi 24),(a1 20)],[o0,o0,o0]] [(24:Int)=((24:Nat):Int),24<31,AU,Qb (w75.heap.size+9)] [(BL w75),(BO w75),(3,i6 25)] ⟨w,w75.heap.size+10,[(A8 w),(Ad z),(Ac z b11 cp8),(Ae n9 b11 cp8),(Ca.Am c18 F74 (Ca.put (fun _=>[]) (((32:Int) / 4 % 4).toNat) (Ca.touch ((fun _=>[]) (((32:Int) / 4 % 4).toNat)) ((32:Int) / 4)))),(Tl.AA t22 F67 (AO [(⟨0,2,7⟩:Ag)])),(AZ w24 c18 t22),(Bc w24),(BJ w24 n9),(Ai w34),(Ah w34),(Aj w75),(Aw w75),(Ap w75),(Ak w75 nm),(Aq w75),(Ar w75 nm),(Au w75 nm),(Az w75),(BN w75),(bk (w75.heap.size+9) #[.func (.func 39) #[] #[],.func (.func 40) #[] #[],.func (.func 41) #[] #[],.func (.func 42) #[] #[],.func (.func 43) #[] #[],.func (.func 39) #[] #[],.func (.func 39) #[] #[],.func (.func 39) #[] #[],.func (.func 39) #[] #[],.func (.func 39) #[] #[],.func (.func 39) #[] #[],.func (.func 39) #[] #[],.func (.func 39) #[] #[],.func (.func 39) #[] #[],.func (.func 39) #[] #[],.func (.func 39) #[] #[],.func (.func 39) #[] #[],.func (.func 39) #[] #[],.func (.func 44) #[] #[],.func (.func 45) #[] #[],.func (.func 46) #[] #[],.func (.func 47) #[] #[],.func (.func 47) #[] #[],.func (.func 47) #[] #[],.func (.func 47) #[] #[],.func (.func 39) #[] #[],.func (.func 39) #[] #[],.func (.func 39) #[] #[],.func (.func 39) #[] #[],.func (.func 39) #[] #[],.func (.func 39) #[] #[]] 82)]⟩ rfl ⟨rfl,(by omega),rfl,rfl,Aa⟩ ?_
 refine AB ?_
 refine q_c 16 0 [1] [[o0,o0],[o0,(oi 25),(a1 20)],[o0,o0,o0]] [(25:Int)=((25:Nat):Int),25<31,AU,Qb (w75.heap.size+9)] [(BL w75),(BO w75),(3,i6 26)] ⟨w,w75.heap.size+10,[(A8 w),(Ad z),(Ac z b11 cp8),(Ae n9 b11 cp8),(Ca.Am c18 F74 (Ca.put (fun _=>[]) (((32:Int) / 4 % 4).toNat) (Ca.touch ((fun _=>[]) (((32:Int) / 4 % 4).toNat)) ((32:Int) / 4)))),(Tl.AA t22 F67 (AO [(⟨0,2,7⟩:Ag)])),(AZ w24 c18 t22),(Bc w24),(BJ w24 n9),(Ai w34),(Ah w34),(Aj w75),(Aw w75),(Ap w75),(Ak w75 nm),(Aq w75),(Ar w75 nm),(Au w75 nm),(Az w75),(BN w75),(bk (w75.heap.size+9) #[.func (.func 39) #[] #[],.func (.func 40) #[] #[],.func (.func 41) #[] #[],.func (.func 42) #[] #[],.func (.func 43) #[] #[],.func (.func 39) #[] #[],.func (.func 39) #[] #[],.func (.func 39) #[] #[],.func (.func 39) #[] #[],.func (.func 39) #[] #[],.func (.func 39) #[] #[],.func (.func 39) #[] #[],.func (.func 39) #[] #[],.func (.func 39) #[] #[],.func (.func 39) #[] #[],.func (.func 39) #[] #[],.func (.func 39) #[] #[],.func (.func 39) #[] #[],.func (.func 44) #[] #[],.func (.func 45) #[] #[],.func (.func 46) #[] #[],.func (.func 47) #[] #[],.func (.func 47) #[] #[],.func (.func 47) #[] #[],.func (.func 47) #[] #[],.func (.func 47) #[] #[],.func (.func 39) #[] #[],.func (.func 39) #[] #[],.func (.func 39) #[] #[],.func (.func 39) #[] #[],.func (.func 39) #[] #[]] 82)]⟩ rfl ⟨rfl,(by omega),rfl,rfl,Aa⟩ ?_
 refine AB ?_
 refine q_c 24 0 [0] [[o0,o0],[(oi 26),(a1 20),(oi 27),(a1 20),(oi 28),(a1 20)],[(oi 29),(a1 20),(oi 30),(a1 20)],[(an 31 20),(an 31 19)]] [(26:Int)=((26:Nat):Int),26<31,AU,Qb (w75.heap.size+9),(27:Int)=((27:Nat):Int),27<31,AU,Qb (w75.heap.size+9),(28:Int)=((28:Nat):Int),28<31,AU,Qb (w75.heap.size+9),(29:Int)=((29:Nat):Int),29<31,AU,Qb (w75.heap.size+9),(30:Int)=((30:Nat):Int),30<31,AU,Qb (w75.heap.size+9),Qb (w75.heap.size+9),Qb (w75.heap.size+9),Qb (w75.heap.size+9),Qb (w75.heap.size+9),Qb (w75.heap.size+9),Qb (w75.heap.size+9),Qb (w75.heap.size+9),Qb (w75.heap.size+9),Qb (w75.heap.size+9),Qb (w75.heap.size+9),Qb (w75.heap.size+9),Qb (w75.heap.size+9),Qb (w75.heap.size+9),Qb (w75.heap.size+9),Qb (w75.heap.size+9),Qb (w75.heap.size+9),Qb (w75.heap.size+9),Qb (w75.heap.size+9),Qb (w75.heap.size+9),Qb (w75.heap.size+9),Qb (w75.heap.size+9),Qb (w75.heap.size+9),Qb (w75.heap.size+9),Qb (w75.heap.size+9),Qb (w75.heap.size+9),Qb (w75.heap.size+9),Qb (w75.heap.size+9),Qb (w75.heap.size+9),Qb (w75.heap.size+9),Qb (w75.heap.size+9),Qb (w75.heap.size+9),Qb (w75.heap.size+8),Qb (w75.heap.size+8),Qb (w75.heap.size+8),Qb (w75.heap.size+8),Qb (w75.heap.size+8),Qb (w75.heap.size+8),Qb (w75.heap.size+8),Qb (w75.heap.size+8),Qb (w75.heap.size+8),Qb (w75.heap.size+8),Qb (w75.heap.size+8),Qb (w75.heap.size+8),Qb (w75.heap.size+8),Qb (w75.heap.size+8),Qb (w75.heap.size+8),Qb (w75.heap.size+8),Qb (w75.heap.size+8),Qb (w75.heap.size+8),Qb (w75.heap.size+8),Qb (w75.heap.size+8),Qb (w75.heap.size+8),Qb (w75.heap.size+8),Qb (w75.heap.size+8),Qb (w75.heap.size+8),Qb (w75.heap.size+8),Qb (w75.heap.size+8),Qb (w75.heap.size+8),Qb (w75.heap.size+8),Qb (w75.heap.size+8),Qb (w75.heap.size+8),Qb (w75.heap.size+8)] [(BL w75)] ⟨w,w75.heap.size+10,(Fq w z b11 cp8 n9 c18 F74 t22 F67 w24 w34 w75 nm)⟩ rfl ⟨rfl,(by omega),rfl,rfl,rfl,(by omega),rfl,rfl,rfl,(by omega),rfl,rfl,rfl,(by omega),rfl,rfl,rfl,(by omega),rfl,rfl,rfl,rfl,rfl,rfl,rfl,rfl,rfl,rfl,rfl,rfl,rfl,rfl,rfl,rfl,rfl,rfl,rfl,rfl,rfl,rfl,rfl,rfl,rfl,rfl,rfl,rfl,rfl,rfl,rfl,rfl,rfl,rfl,rfl,rfl,rfl,rfl,rfl,rfl,rfl,rfl,rfl,rfl,rfl,rfl,rfl,rfl,rfl,rfl,rfl,rfl,rfl,rfl,rfl,rfl,rfl,rfl,rfl,rfl,rfl,rfl,rfl,rfl,Aa⟩ ?_
 refine AL [.at 19,.at 19,.at 19,.at 19,.at 19,.at 19,.at 19,.at 19,.at 19,.at 19,.at 19,.at 19,.at 19,.at 19,.at 19,.at 19,.at 19,.at 19,.at 19,.at 19,.at 19,.at 19,.at 19,.at 19,.at 19,.at 19,.at 19,.at 19,.at 19,.at 19,.at 19] [Qb (w75.heap.size+8),Qb (w75.heap.size+8),Qb (w75.heap.size+8),Qb (w75.heap.size+8),Qb (w75.heap.size+8),Qb (w75.heap.size+8),Qb (w75.heap.size+8),Qb (w75.heap.size+8),Qb (w75.heap.size+8),Qb (w75.heap.size+8),Qb (w75.heap.size+8),Qb (w75.heap.size+8),Qb (w75.heap.size+8),Qb (w75.heap.size+8),Qb (w75.heap.size+8),Qb (w75.heap.size+8),Qb (w75.heap.size+8),Qb (w75.heap.size+8),Qb (w75.heap.size+8),Qb (w75.heap.size+8),Qb (w75.heap.size+8),Qb (w75.heap.size+8),Qb (w75.heap.size+8),Qb (w75.heap.size+8),Qb (w75.heap.size+8),Qb (w75.heap.size+8),Qb (w75.heap.size+8),Qb (w75.heap.size+8),Qb (w75.heap.size+8),Qb (w75.heap.size+8),Qb (w75.heap.size+8)] (.agg #[.func (.func 39) #[] #[],.func (.func 40) #[] #[],.func (.func 41) #[] #[],.func (.func 42) #[] #[],.func (.func 43) #[] #[],.func (.func 39) #[] #[],.func (.func 39) #[] #[],.func (.func 39) #[] #[],.func (.func 39) #[] #[],.func (.func 39) #[] #[],.func (.func 39) #[] #[],.func (.func 39) #[] #[],.func (.func 39) #[] #[],.func (.func 39) #[] #[],.func (.func 39) #[] #[],.func (.func 39) #[] #[],.func (.func 39) #[] #[],.func (.func 39) #[] #[],.func (.func 44) #[] #[],.func (.func 45) #[] #[],.func (.func 46) #[] #[],.func (.func 47) #[] #[],.func (.func 47) #[] #[],.func (.func 47) #[] #[],.func (.func 47) #[] #[],.func (.func 47) #[] #[],.func (.func 48) #[] #[],.func (.func 49) #[] #[],.func (.func 50) #[] #[],.func (.func 51) #[] #[],.func (.func 52) #[] #[]]) ⟨rfl,rfl,rfl,rfl,rfl,rfl,rfl,rfl,rfl,rfl,rfl,rfl,rfl,rfl,rfl,rfl,rfl,rfl,rfl,rfl,rfl,rfl,rfl,rfl,rfl,rfl,rfl,rfl,rfl,rfl,rfl,Aa⟩ ?_
 intro w113 hw113
 have hs114:=hw113
 refine⟨_,_,rfl,hs114,.inr (fun c hc=>hs114.all c (by first | exact hc | exact Cj (is:=[0,1,2,3,4,5,6,7,8,9,10,11,12,13,14,15,16,17,18]) rfl c hc)), ?_⟩
 refine Dx [0,8,10,71,73,66] [(Cf w24),(Df w24),(Dv w24),(71,i6 3),(73,pt (w24.heap.size+2)),(J9)] ?_
 refine Cb [(6,⟨.aidx 3 (.func (.func 42) #[] #[]),none⟩)] [0,8,10,73,72] [(3:Int)=((3:Nat):Int),3<31,(#[.func (.func 39) #[] #[],.func (.func 40) #[] #[],.func (.func 41) #[] #[],.func (.func 42) #[] #[],.func (.func 43) #[] #[],.func (.func 39) #[] #[],.func (.func 39) #[] #[],.func (.func 39) #[] #[],.func (.func 39) #[] #[],.func (.func 39) #[] #[],.func (.func 39) #[] #[],.func (.func 39) #[] #[],.func (.func 39) #[] #[],.func (.func 39) #[] #[],.func (.func 39) #[] #[],.func (.func 39) #[] #[],.func (.func 39) #[] #[],.func (.func 39) #[] #[],.func (.func 44) #[] #[],.func (.func 45) #[] #[],.func (.func 46) #[] #[],.func (.func 47) #[] #[],.func (.func 47) #[] #[],.func (.func 47) #[] #[],.func (.func 47) #[] #[],.func (.func 47) #[] #[],.func (.func 48) #[] #[],.func (.func 49) #[] #[],.func (.func 50) #[] #[],.func (.func 51) #[] #[],.func (.func 52) #[] #[]]:Array Value)[CY 1 3]? = some (.func (.func 42) #[] #[])] (CJ 8 2) [(Cf w24),(Df w24),(Dv w24),(73,pt (w24.heap.size+2)),(72,.func (.func 42) #[] #[])] ⟨rfl,(by omega),rfl,Aa⟩ ?_
 refine CU 8 ?_
 refine Dj [] [] 42 #[pt (w24.heap.size+2)] (some 74) (by as_aux_lemma=>kernel_rfl) rfl rfl Aa ?_
 intro w115 hw115
 refine A7 (args:=[pt (w24.heap.size+2)]) 7 ⟨w,w75.heap.size+10,(Fq w z b11 cp8 n9 c18 F74 t22 F67 w24 w34 w75 nm)⟩ Tryd.func42 rfl (by kernel_rfl) (by kernel_rfl) hw115 ?_
 refine BF 6 2 [] [[o0],[o0,o0]] [] [(3,pt (w24.heap.size+2)),(4,pt (w24.heap.size+2))] rfl Aa ?_
 refine l_call [] [] 64 #[pt (w24.heap.size+2)] (some 5) Aa ?_
 intro w116 hw116
 refine A7 (args:=[pt (w24.heap.size+2)]) 9 ⟨w,w75.heap.size+10,(Fq w z b11 cp8 n9 c18 F74 t22 F67 w24 w34 w75 nm)⟩ Tryd.func64 rfl (by kernel_rfl) (by kernel_rfl) hw116 ?_
 refine BF 9 0 [] [[o0],[o0,o0,o0,o0,(a1 8),o0,o0]] [Qb (w24.heap.size+2)] [(2,.int .u32 5)] rfl ⟨rfl,Aa⟩ ?_
 refine AL [] [] (.int .u32 5) Aa ?_
 intro w117 hw117
 refine⟨_,_,rfl,hw117, ?_⟩
 refine Fh [3,5] [(3,pt (w24.heap.size+2)),(5,.int .u32 5)] ?_
 refine l_call [] [] 63 #[pt (w24.heap.size+2),.int .u32 5] (some 6) Aa ?_
 intro w118 hw118
 refine A7 (args:=[pt (w24.heap.size+2),.int .u32 5]) 16 ⟨w,w75.heap.size+10,(Fq w z b11 cp8 n9 c18 F74 t22 F67 w24 w34 w75 nm)⟩ Tryd.func63 rfl (by kernel_rfl) (by kernel_rfl) hw118 ?_
 refine BF 5 0 [] [[o0]] [] [(CS w24),(1,.int .u32 5)] rfl Aa ?_
 refine Dw 11 [0,1,2,3,4,5,6,7,8,9,10,11,12,13,14,15,16,17,18,19,20] (Fq w z b11 cp8 n9 c18 F74 t22 F67 w24 w34 w75 nm) rfl rfl ?_
 refine Cb [(0,o0),(1,o0),(2,o0),(3,o0),(4,o0),(5,(a1 8)),(6,o0),(7,o0),(8,o0),(9,o0),(10,(oi 1))] [11,15] [Qb (w24.heap.size+2),(1:Int)=((1:Nat):Int),1<16,AU] (CJ 11 1) [(11,.int .u32 5),(15,.pointer (some ⟨w24.heap.size+2,1,none⟩))] ⟨rfl,rfl,(by omega),rfl,Aa⟩ ?_
 refine CU 11 ?_
 refine EU (a1 8) [] [Qb (w24.heap.size+2)] [] ⟨w,w75.heap.size+10,(Ey w z b11 cp8 n9 c18 F74 t22 F67 w24 w34 w75 nm)⟩ [] ⟨rfl,Aa⟩ (.inl rfl) ?_
 refine EI 12 [0,1,2,3,4,5,6,7,8,9,10,11,12,13,14,15,16,17,18,19,20] (Ey w z b11 cp8 n9 c18 F74 t22 F67 w24 w34 w75 nm) rfl rfl ?_
 refine Di ?_
 refine GM 6 0 [] [[o0]] [] [(4,i6 0)] rfl Aa ?_
 refine AL [] [] (i6 0) Aa ?_
 intro w119 hw119
 refine⟨_,_,rfl,hw119, ?_⟩
 refine BI 3 0 [] [[o0]] [] [(2,i6 0)] rfl Aa ?_
 refine AL [] [] (i6 0) Aa ?_
 intro w120 hw120
 refine⟨_,_,rfl,hw120,.inl rfl, ?_⟩
 refine Dx [0,8,10,74] [(Cf w24),(Df w24),(Dv w24),(74,i6 0)] ?_
 refine EI 10 [0,1,2,3,4,5,6,7,8,9,10,11,12,13,14,15,16,17,18,19,20] (Ey w z b11 cp8 n9 c18 F74 t22 F67 w24 w34 w75 nm) rfl rfl ?_
 refine Cb [(9,o0)] [0,8,10,11] [] (CJ 10 0) [(Cf w24),(Df w24),(Dv w24),(11,i6 0)] Aa ?_
 refine Di ?_
 refine GM 10 0 [0] [[o0,o0]] [] [(Cf w24),(Df w24),(Dv w24),(11,i6 0),(76,.bool false)] rfl Aa ?_
 refine Dw 15 [0,1,2,3,4,5,6,7,8,9,10,11,12,13,14,15,16,17,18,19,20] (Ey w z b11 cp8 n9 c18 F74 t22 F67 w24 w34 w75 nm) rfl rfl ?_
 refine Cb [(0,o0),(1,o0),(2,o0),(3,o0),(4,(a1 8)),(5,o0),(6,o0),(7,o0),(8,o0),(9,(a1 8))] [0,8,10,95,99,104] [Qb (w24.heap.size+2),Qb (w24.heap.size+2)] (CJ 10 6) [(Cf w24),(Df w24),(Dv w24),(95,pt (w24.heap.size+2)),(99,i6 13),(104,i6 3)] ⟨rfl,rfl,Aa⟩ ?_
 refine CU 10 ?_
 refine Dj [] [] 29 #[i6 3] (some 105) (by as_aux_lemma=>kernel_rfl) rfl rfl Aa ?_
 intro w121 hw121
 refine A7 (args:=[i6 3]) 6 ⟨w,w75.heap.size+10,(Ey w z b11 cp8 n9 c18 F74 t22 F67 w24 w34 w75 nm)⟩ Tryd.func29 rfl (by kernel_rfl) (by kernel_rfl) hw121 ?_
 refine BF 6 1 [] [[o0],[o0]] [] [(3,i6 3)] rfl Aa ?_
 refine l_call [] [] 53 #[i6 3] (some 4) Aa ?_
 intro w122 hw122
 refine A7 (args:=[i6 3]) 13 ⟨w,w75.heap.size+10,(Ey w z b11 cp8 n9 c18 F74 t22 F67 w24 w34 w75 nm)⟩ Tryd.func53 rfl (by kernel_rfl) (by kernel_rfl) hw122 ?_
 refine q_c 17 0 [0] [[o0],[o0,o0,o0,o0,o0,o0],[o0,(oi 3),(oa [.via 0 (.string (nm 3)),.via 0 (i6 5),.via 0 (i6 1)]),(an 3 21)]] [(3:Int)=((3:Nat):Int),3<31,AU,Old w 0 9 (.string (nm 3)),Old w 0 10 (i6 5),Old w 0 11 (i6 1),Qb (w75.heap.size+10),Qb (w75.heap.size+10),Qb (w75.heap.size+10)] [(2,pt (w75.heap.size+10))] ⟨w,w75.heap.size+11,[(A8 w),(Ad z),(Ac z b11 cp8),(Ae n9 b11 cp8),(Ca.Am c18 F74 (Ca.put (fun _=>[]) (((32:Int) / 4 % 4).toNat) (Ca.touch ((fun _=>[]) (((32:Int) / 4 % 4).toNat)) ((32:Int) / 4)))),(Tl.AA t22 F67 (AO [(⟨0,2,7⟩:Ag)])),(AZ w24 c18 t22),(Bc w24),(Js w24 n9),(Ai w34),(Ah w34),(Aj w75),(Aw w75),(Ap w75),(Ak w75 nm),(Aq w75),(Ar w75 nm),(Au w75 nm),(Az w75),(Be w75),(Bd w75),(AC w75 nm)]⟩ rfl ⟨rfl,(by omega),rfl,BQ (hL 9 _ rfl),BQ (hL 10 _ rfl),BQ (hL 11 _ rfl),rfl,rfl,rfl,Aa⟩ ?_
 refine AL [.at 21,.at 21,.at 21] [Qb (w75.heap.size+10),Qb (w75.heap.size+10),Qb (w75.heap.size+10)] (.agg #[.string (nm 3),i6 5,i6 1]) ⟨rfl,rfl,rfl,Aa⟩ ?_
 intro w123 hw123
 refine⟨_,_,rfl,hw123, ?_⟩
 refine BI 3 0 [] [[o0,o0]] [] [(2,i6 1)] rfl Aa ?_
 refine AL [] [] (i6 1) Aa ?_
 intro w124 hw124
 have hs125:=hw124
 refine⟨_,_,rfl,hs125,.inr (fun c hc=>hs125.all c (by first | exact hc | exact Cj (is:=[0,1,2,3,4,5,6,7,8,9,10,11,12,13,14,15,16,17,18,19,20]) rfl c hc)), ?_⟩
 refine Dx [0,8,10,95,99,105] [(Cf w24),(Df w24),(Dv w24),(95,pt (w24.heap.size+2)),(99,i6 13),(105,i6 1)] ?_
 refine Cb [(11,o0),(12,o0),(13,o0),(14,o0)] [0,8,10,106,109] [] (CJ 15 1) [(Cf w24),(Df w24),(Dv w24),(106,i6 14),(109,.pointer (some ⟨w24.heap.size+2,26,none⟩))] Aa ?_
 refine CU 15 ?_
 refine EU (a1 8) [0,8,10] [Qb (w24.heap.size+2)] [(Cf w24),(Df w24),(Dv w24)] ⟨w,w75.heap.size+11,(IW w z b11 cp8 n9 c18 F74 t22 F67 w24 w34 w75 nm)⟩ [] ⟨rfl,Aa⟩ (.inl rfl) ?_
 refine EI 16 [0,1,2,3,4,5,6,7,8,9,10,11,12,13,14,15,16,17,18,19,20,21] (IW w z b11 cp8 n9 c18 F74 t22 F67 w24 w34 w75 nm) rfl rfl ?_
 refine Di ?_
 refine MW 10 0 [] [[o0,o0,o0,o0,(an 17 8),o0,o0,o0,(an 17 6)],[o0,o0,o0,(an 8 8),(an 8 7),o0]] [Qb (w24.heap.size+2),Qb (w24.heap.size+2),Qb (w24.heap.size+2),Qb (w24.heap.size+2),Qb (w24.heap.size+2),Qb (w24.heap.size+2),Qb (w24.heap.size+2),Qb (w24.heap.size+2),Qb (w24.heap.size+2),Qb (w24.heap.size+2),Qb (w24.heap.size+2),Qb (w24.heap.size+2),Qb (w24.heap.size+2),Qb (w24.heap.size+2),Qb (w24.heap.size+2),Qb (w24.heap.size+2),Qb (w24.heap.size+2),Qb w24.heap.size,Qb w24.heap.size,Qb w24.heap.size,Qb w24.heap.size,Qb w24.heap.size,Qb w24.heap.size,Qb w24.heap.size,Qb w24.heap.size,Qb w24.heap.size,Qb w24.heap.size,Qb w24.heap.size,Qb w24.heap.size,Qb w24.heap.size,Qb w24.heap.size,Qb w24.heap.size,Qb w24.heap.size,Qb w24.heap.size,Qb (w24.heap.size+2),Qb (w24.heap.size+2),Qb (w24.heap.size+2),Qb (w24.heap.size+2),Qb (w24.heap.size+2),Qb (w24.heap.size+2),Qb (w24.heap.size+2),Qb (w24.heap.size+2),Qb (w24.heap.size+1),Qb (w24.heap.size+1),Qb (w24.heap.size+1),Qb (w24.heap.size+1),Qb (w24.heap.size+1),Qb (w24.heap.size+1),Qb (w24.heap.size+1),Qb (w24.heap.size+1)] [(Df w24),(9,i6 0)] ⟨w,w75.heap.size+11,[(A8 w),(Ad z),(Ac z b11 cp8),(Ae n9 b11 cp8),(Ca.Am c18 F74 (Ca.put (fun _=>[]) (((32:Int) / 4 % 4).toNat) (Ca.touch ((fun _=>[]) (((32:Int) / 4 % 4).toNat)) ((32:Int) / 4)))),(Tl.AA t22 F67 (AO [(⟨0,2,7⟩:Ag)])),(AX w24 c18 t22),(AQ w24),(AP w24 n9),(Ai w34),(Ah w34),(Aj w75),(Aw w75),(Ap w75),(Ak w75 nm),(Aq w75),(Ar w75 nm),(Au w75 nm),(Az w75),(Be w75),(Bd w75),(AC w75 nm)]⟩ rfl ⟨rfl,rfl,rfl,rfl,rfl,rfl,rfl,rfl,rfl,rfl,rfl,rfl,rfl,rfl,rfl,rfl,rfl,rfl,rfl,rfl,rfl,rfl,rfl,rfl,rfl,rfl,rfl,rfl,rfl,rfl,rfl,rfl,rfl,rfl,rfl,rfl,rfl,rfl,rfl,rfl,rfl,rfl,rfl,rfl,rfl,rfl,rfl,rfl,rfl,rfl,Aa⟩ ?_
 refine AL [.at 7,.at 7,.at 7,.at 7,.at 7,.at 7,.at 7,.at 7] [Qb (w24.heap.size+1),Qb (w24.heap.size+1),Qb (w24.heap.size+1),Qb (w24.heap.size+1),Qb (w24.heap.size+1),Qb (w24.heap.size+1),Qb (w24.heap.size+1),Qb (w24.heap.size+1)] (.tuple #[.agg #[i6 14,i6 0,i6 (-1),.int .u32 0,.int .u32 205520901,.bool false,.int .u32 0,.int .u32 0],i6 0]) ⟨rfl,rfl,rfl,rfl,rfl,rfl,rfl,rfl,Aa⟩ ?_
 intro w126 hw126
 refine⟨_,_,rfl,hw126, ?_⟩
 refine D9 4 2 [] [[o0,o0,o0,o0,(an 8 22),o0],[o0,o0]] [Qb (w75.heap.size+11),Qb (w75.heap.size+11),Qb (w75.heap.size+11),Qb (w75.heap.size+11),Qb (w75.heap.size+11),Qb (w75.heap.size+11),Qb (w75.heap.size+11),Qb (w75.heap.size+11)] [(3,pt w24.heap.size),(4,pt (w75.heap.size+11)),(2,i6 0),(30,pt w24.heap.size),(31,pt n9)] ⟨w,w75.heap.size+12,(IQ w z b11 cp8 n9 c18 F74 t22 F67 w24 w34 w75 nm)⟩ rfl ⟨rfl,rfl,rfl,rfl,rfl,rfl,rfl,rfl,Aa⟩ ?_
 refine l_call [] [] 12 #[pt w24.heap.size,pt n9,i6 0,.int .u32 914] (some 32) Aa ?_
 intro w127 hw127
 refine A7 (args:=[pt w24.heap.size,pt n9,i6 0,.int .u32 914]) 122 ⟨w,w75.heap.size+12,(IQ w z b11 cp8 n9 c18 F74 t22 F67 w24 w34 w75 nm)⟩ Tryd.func12 rfl (by kernel_rfl) (by kernel_rfl) hw127 ?_
 refine q_c 15 5 [0] [[o0,o0],[o0,o0,o0,o0,o0,o0],[o0,o0,o0,o0,o0]] [] [(Cf w24),(1,pt n9),(2,i6 0),(3,.int .u32 914),(Dk w75),(21,.bool false),(22,i6 0),(23,pt n9)] ⟨w,w75.heap.size+13,(IY w z b11 cp8 n9 c18 F74 t22 F67 w24 w34 w75 nm)⟩ rfl Aa ?_
 refine l_call [] [] 13 #[pt n9] (some 24) Aa ?_
 intro w128 hw128
 refine A7 (args:=[pt n9]) 11 ⟨w,w75.heap.size+13,(IY w z b11 cp8 n9 c18 F74 t22 F67 w24 w34 w75 nm)⟩ Tryd.func13 rfl (by kernel_rfl) (by kernel_rfl) hw128 ?_
 refine BF 17 0 [0] [[o0],[o0,o0],[o0,o0,o0,(a1 3),o0,o0,o0]] [Qb n9] [(2,i6 4)] rfl ⟨rfl,Aa⟩ ?_
 refine AL [] [] (i6 4) Aa ?_
 intro w129 hw129
 refine⟨_,_,rfl,hw129, ?_⟩
 refine D9 19 1 [0] [[o0,o0],[o0,o0,o0,o0,(an 17 6),o0,o0,o0,o0,o0,o0,o0],[o0,o0,o0,o0,(a1 24)],[o0,o0,o0,o0,o0,o0,(a1 6),o0,o0,o0,(a1 24)],[o0]] [Qb w24.heap.size,Qb w24.heap.size,Qb w24.heap.size,Qb w24.heap.size,Qb w24.heap.size,Qb w24.heap.size,Qb w24.heap.size,Qb w24.heap.size,Qb w24.heap.size,Qb w24.heap.size,Qb w24.heap.size,Qb w24.heap.size,Qb w24.heap.size,Qb w24.heap.size,Qb w24.heap.size,Qb w24.heap.size,Qb w24.heap.size,Qb (w75.heap.size+13),Qb w24.heap.size,Qb (w75.heap.size+13)] [(Cf w24),(Dk w75),(Du w75),(53,pt (w75.heap.size+13))] ⟨w,w75.heap.size+14,(FV w z b11 cp8 n9 c18 F74 t22 F67 w24 w34 w75 nm)⟩ rfl ⟨rfl,rfl,rfl,rfl,rfl,rfl,rfl,rfl,rfl,rfl,rfl,rfl,rfl,rfl,rfl,rfl,rfl,rfl,rfl,rfl,Aa⟩ ?_
 refine l_call [] [] 27 #[pt (w75.heap.size+13)] (some 54) Aa ?_
 intro w130 hw130
 refine A7 (args:=[pt (w75.heap.size+13)]) 47 ⟨w,w75.heap.size+14,(FV w z b11 cp8 n9 c18 F74 t22 F67 w24 w34 w75 nm)⟩ Tryd.func27 rfl (by kernel_rfl) (by kernel_rfl) hw130 ?_
 refine BF 6 6 [] [[o0],[o0,o0,o0,o0,o0,(a1 24)]] [Qb (w75.heap.size+13)] [(Ce w75),(8,pt (w75.heap.size+13)),(13,.int .u32 1)] rfl ⟨rfl,Aa⟩ ?_
 refine l_call [] [] 37 #[pt (w75.heap.size+13),.int .u32 1,i6 4] (some 14) Aa ?_
 intro w131 hw131
 refine A7 (args:=[pt (w75.heap.size+13),.int .u32 1,i6 4]) 55 ⟨w,w75.heap.size+14,(FV w z b11 cp8 n9 c18 F74 t22 F67 w24 w34 w75 nm)⟩ Tryd.func37 rfl (by kernel_rfl) (by kernel_rfl) hw131 ?_
 refine BF 14 5 [0] [[o0,o0],[o0,o0],[o0,o0,o0,o0,o0]] [] [(Ce w75),(1,.int .u32 1),(16,pt (w75.heap.size+13)),(19,i6 0),(20,i6 4)] rfl Aa ?_
 refine l_call [] [] 56 #[pt (w75.heap.size+13),i6 0,i6 4] (some 21) Aa ?_
 intro w132 hw132
 refine A7 (args:=[pt (w75.heap.size+13),i6 0,i6 4]) 80 ⟨w,w75.heap.size+14,(FV w z b11 cp8 n9 c18 F74 t22 F67 w24 w34 w75 nm)⟩ Tryd.func56 rfl (by kernel_rfl) (by kernel_rfl) hw132 ?_
 refine BF 6 8 [] [[o0,o0],[o0,o0,o0,(a1 24),o0,o0,(a1 6),o0]] [Qb (w75.heap.size+13),Qb w24.heap.size] [(Ce w75),(1,i6 0),(2,i6 4),(18,pt t22),(19,i6 0)] rfl ⟨rfl,rfl,Aa⟩ ?_
 refine l_call [] [] 69 #[pt t22,i6 0] (some 20) Aa ?_
 intro w133 hw133
 have hgo:=Gi hw133 (i:=5) (xs:=[(⟨0,2,7⟩:Ag)]) rfl 0
 rw[show fV [(⟨0,2,7⟩:Ag)] 0=⟨0,2,7⟩from by kernel_rfl,show fB [(⟨0,2,7⟩:Ag)] 0=true from by kernel_rfl,show F5 [(⟨0,2,7⟩:Ag)] 0=[(⟨0,2,7⟩:Ag)]from by kernel_rfl]at hgo
 refine hgo.mono ?_
 rintro e w135 ⟨F134,rfl,hmw135,hSw135⟩
 have hnw135:w75.heap.size+14≤w135.heap.size:=hmw135
 refine⟨_,_,rfl,hSw135, ?_⟩
 refine D9 11 0 [0] [[o0,o0,o0,o0,(an 3 25),o0],[o0,o0]] [Qb w135.heap.size,Qb w135.heap.size,Qb w135.heap.size] [(Ce w75),(1,i6 0),(2,i6 4),(8,pt w135.heap.size),(24,.bool false)] ⟨w,w135.heap.size+1,(Hg w z b11 cp8 n9 c18 F74 t22 F134 w24 w34 w75 nm w135)⟩ rfl ⟨rfl,rfl,rfl,Aa⟩ ?_
 refine Dw 24 [0,1,2,3,4,5,6,7,8,9,10,11,12,13,14,15,16,17,18,19,20,21,22,23,24,25] (Hg w z b11 cp8 n9 c18 F74 t22 F134 w24 w34 w75 nm w135) rfl rfl ?_
 refine Cb [(0,o0),(1,(a1 25)),(2,o0),(3,(a1 25)),(4,o0),(5,o0),(6,o0),(7,o0),(8,o0),(9,(a1 25)),(10,o0),(11,o0),(12,o0),(13,o0),(14,(a1 25)),(15,o0),(16,o0),(17,o0),(18,(a1 24))] [59,70,72,76] [Qb w135.heap.size,Qb w135.heap.size,Qb w135.heap.size,Qb w135.heap.size,Qb (w75.heap.size+13)] (CJ 19 5) [(59,i6 2),(70,.bool true),(72,i6 2),(76,pt n9)] ⟨rfl,rfl,rfl,rfl,rfl,Aa⟩ ?_
 refine CU 19 ?_
 refine Dj [] [] 13 #[pt n9] (some 77) (by as_aux_lemma=>kernel_rfl) rfl rfl Aa ?_
 intro w136 hw136
 refine A7 (args:=[pt n9]) 11 ⟨w,w135.heap.size+1,(Hg w z b11 cp8 n9 c18 F74 t22 F134 w24 w34 w75 nm w135)⟩ Tryd.func13 rfl (by kernel_rfl) (by kernel_rfl) hw136 ?_
 refine BF 17 0 [0] [[o0],[o0,o0],[o0,o0,o0,(a1 3),o0,o0,o0]] [Qb n9] [(2,i6 4)] rfl ⟨rfl,Aa⟩ ?_
 refine AL [] [] (i6 4) Aa ?_
 intro w137 hw137
 have hs138:=hw137
 refine⟨_,_,rfl,hs138,.inr (fun c hc=>hs138.all c (by first | exact hc | exact Cj (is:=[0,1,2,3,4,5,6,7,8,9,10,11,12,13,14,15,16,17,18,19,20,21,22,23,24,25]) rfl c hc)), ?_⟩
 refine Dx [59,70,72,77] [(59,i6 2),(70,.bool true),(72,i6 2),(77,i6 4)] ?_
 refine Cb [(20,o0),(21,o0),(22,o0),(23,o0)] [6,7] [] (CJ 24 0) [(6,i6 2),(7,.bool true)] Aa ?_
 refine Di ?_
 refine FZ [6,7] [(6,i6 2),(7,.bool true)] ?_
 refine Gy <| I9 <| AL [] [] (.tuple #[i6 2,.bool true]) Aa ?_
 intro w139 hw139
 refine⟨_,_,rfl,hw139, ?_⟩
 refine BI 16 8 [0] [[o0,o0,o0,o0,o0],[o0,o0],[o0,o0,o0,o0,o0,o0,o0],[o0,o0,o0,(a1 24),o0,o0,(a1 6),o0]] [Qb (w75.heap.size+13),Qb w24.heap.size] [(Ce w75),(10,i6 33),(39,pt c18),(40,i6 33)] rfl ⟨rfl,rfl,Aa⟩ ?_
 refine l_call [] [] 57 #[pt c18,i6 33] (some 41) Aa ?_
 intro w140 hw140
 have hgo:=Ca.Gf hw140 (i:=4) rfl 33 (by decide) (by decide)
 rw[show Ca.cost ((Ca.put (fun _=>[]) (((32:Int) / 4 % 4).toNat) (Ca.touch ((fun _=>[]) (((32:Int) / 4 % 4).toNat)) ((32:Int) / 4))) (((33:Int) / 4 % 4).toNat)) ((33:Int) / 4)=1 from by decide]at hgo
 refine hgo.mono ?_
 rintro e w142 ⟨F141,rfl,hmw142,hSw142⟩
 have hnw142:w135.heap.size+1≤w142.heap.size:=hmw142
 refine⟨_,_,rfl,hSw142, ?_⟩
 refine D9 11 0 [] [[o0,o0,o0,o0,o0],[o0,o0,o0,o0,(a1 24),o0,o0,o0,o0,o0,(a1 24)],[o0,o0,o0]] [Qb (w75.heap.size+13),Qb (w75.heap.size+13)] [(6,i6 33),(7,.bool true)] ⟨w,w142.heap.size,(Hr w z b11 cp8 n9 c18 F141 t22 F134 w24 w34 w75 nm w135)⟩ rfl ⟨rfl,rfl,Aa⟩ ?_
 refine AL [] [] (.tuple #[i6 33,.bool true]) Aa ?_
 intro w143 hw143
 refine⟨_,_,rfl,hw143, ?_⟩
 refine BI 12 6 [0] [[o0,o0,o0,o0,o0],[o0,o0],[o0,o0,o0,o0,(a1 24),o0]] [Qb (w75.heap.size+13)] [(Ce w75),(20,pt (w75.heap.size+13)),(24,pt n9),(25,i6 33)] rfl ⟨rfl,Aa⟩ ?_
 refine l_call [] [] 18 #[pt n9,i6 33] (some 26) Aa ?_
 intro w144 hw144
 refine A7 (args:=[pt n9,i6 33]) 20 ⟨w,w142.heap.size,(Hr w z b11 cp8 n9 c18 F141 t22 F134 w24 w34 w75 nm w135)⟩ Tryd.func18 rfl (by kernel_rfl) (by kernel_rfl) hw144 ?_
 refine BF 7 2 [] [[o0,o0],[o0,o0]] [] [(C9 n9),(1,i6 33),(E8 n9),(8,i6 33)] rfl Aa ?_
 refine l_call [] [] 31 #[pt n9,i6 33,i6 1] (some 9) Aa ?_
 intro w145 hw145
 refine A7 (args:=[pt n9,i6 33,i6 1]) 35 ⟨w,w142.heap.size,(Hr w z b11 cp8 n9 c18 F141 t22 F134 w24 w34 w75 nm w135)⟩ Tryd.func31 rfl (by kernel_rfl) (by kernel_rfl) hw145 ?_
 refine BF 25 0 [0,0] [[o0],[o0,o0],[o0,o0,o0,o0,o0,o0,o0,o0,o0,o0,o0,(a1 3),o0,o0,o0,o0,o0,o0,o0,o0,(a1 3),o0,o0,o0,o0,o0],[o0]] [Qb n9,Qb n9] [(6,i6 0)] rfl ⟨rfl,rfl,Aa⟩ ?_
 refine AL [] [] (i6 0) Aa ?_
 intro w146 hw146
 refine⟨_,_,rfl,hw146, ?_⟩
 refine BI 14 0 [0] [[o0],[o0,o0],[o0,o0,o0,(a1 3),o0,(oi 33),(oa [.via 2 (.int .u32 1283457040)]),o0,o0]] [Qb n9,(33:Int)=((33:Nat):Int),33<64,AU,∀ w',Ch.holds (Ac z b11 cp8) w'→w'.cell? ⟨b11,33,none⟩=some (.int .u32 1283457040)] [(4,.int .u32 1283457040),(5,i6 0)] rfl ⟨rfl,rfl,(by omega),rfl,DD (sz:=1) (j:=33) (k:=0) (fun _=>rfl) (by exact of_decide_eq_true (by kernel_rfl)) (by kernel_rfl),Aa⟩ ?_
 refine AL [] [] (.tuple #[.int .u32 1283457040,i6 0]) Aa ?_
 intro w147 hw147
 refine⟨_,_,rfl,hw147, ?_⟩
 refine D9 4 5 [] [[o0,o0,o0,o0,o0,o0,(a1 24)],[o0,o0,o0,o0,(a1 24)]] [Qb (w75.heap.size+13),Qb (w75.heap.size+13)] [(Ce w75),(37,.int .u32 1283457040)] ⟨w,w142.heap.size,(Jc w z b11 cp8 n9 c18 F141 t22 F134 w24 w34 w75 nm w135)⟩ rfl ⟨rfl,rfl,Aa⟩ ?_
 refine l_call [] [] 38 #[.int .u32 1283457040] (some 38) Aa ?_
 intro w148 hw148
 refine A7 (args:=[.int .u32 1283457040]) 59 ⟨w,w142.heap.size,(Jc w z b11 cp8 n9 c18 F141 t22 F134 w24 w34 w75 nm w135)⟩ Tryd.func38 rfl (by kernel_rfl) (by kernel_rfl) hw148 ?_
 refine q_c 14 2 [] [[o0,o0,o0],[o0,o0],[(a1 26),o0,o0,o0,o0,(an 5 28)],[o0,(a1 28)]] [Qb w142.heap.size,Qb (w142.heap.size+2),Qb (w142.heap.size+2),Qb (w142.heap.size+2),Qb (w142.heap.size+2),Qb (w142.heap.size+2),Qb (w142.heap.size+2)] [(FI w142),(EZ w142),(Gz w142),(FC w142),(19,i6 19)] ⟨w,w142.heap.size+3,(Ht w z b11 cp8 n9 c18 F141 t22 F134 w24 w34 w75 nm w135 w142)⟩ rfl ⟨rfl,rfl,rfl,rfl,rfl,rfl,rfl,Aa⟩ ?_
 refine l_call [] [] 60 #[i6 19] (some 20) Aa ?_
 intro w149 hw149
 refine A7 (args:=[i6 19]) 6 ⟨w,w142.heap.size+3,(Ht w z b11 cp8 n9 c18 F141 t22 F134 w24 w34 w75 nm w135 w142)⟩ Tryd.func60 rfl (by kernel_rfl) (by kernel_rfl) hw149 ?_
 refine BF 6 1 [] [[o0],[o0]] [] [(3,i6 19)] rfl Aa ?_
 refine l_call [] [] 53 #[i6 19] (some 4) Aa ?_
 intro w150 hw150
 refine A7 (args:=[i6 19]) 13 ⟨w,w142.heap.size+3,(Ht w z b11 cp8 n9 c18 F141 t22 F134 w24 w34 w75 nm w135 w142)⟩ Tryd.func53 rfl (by kernel_rfl) (by kernel_rfl) hw150 ?_
 refine q_c 17 0 [0] [[o0],[o0,o0,o0,o0,o0,o0],[o0,(oi 19),(oa [.via 0 (.string (nm 19)),.via 0 (i6 6),.via 0 (i6 1)]),(an 3 29)]] [(19:Int)=((19:Nat):Int),19<31,AU,Old w 0 57 (.string (nm 19)),Old w 0 58 (i6 6),Old w 0 59 (i6 1),Qb (w142.heap.size+3),Qb (w142.heap.size+3),Qb (w142.heap.size+3)] [(2,pt (w142.heap.size+3))] ⟨w,w142.heap.size+4,(GU w z b11 cp8 n9 c18 F141 t22 F134 w24 w34 w75 nm w135 w142)⟩ rfl ⟨rfl,(by omega),rfl,BQ (hL 57 _ rfl),BQ (hL 58 _ rfl),BQ (hL 59 _ rfl),rfl,rfl,rfl,Aa⟩ ?_
 refine AL [.at 29,.at 29,.at 29] [Qb (w142.heap.size+3),Qb (w142.heap.size+3),Qb (w142.heap.size+3)] (.agg #[.string (nm 19),i6 6,i6 1]) ⟨rfl,rfl,rfl,Aa⟩ ?_
 intro w151 hw151
 refine⟨_,_,rfl,hw151, ?_⟩
 refine BI 3 0 [] [[o0,o0]] [] [(2,i6 6)] rfl Aa ?_
 refine AL [] [] (i6 6) Aa ?_
 intro w152 hw152
 refine⟨_,_,rfl,hw152, ?_⟩
 refine Fh [1,2,4,5,20] [(FI w142),(EZ w142),(Gz w142),(FC w142),(20,i6 6)] ?_
 refine l_call [] [] 59 #[i6 6] (some 21) Aa ?_
 intro w153 hw153
 refine A7 (args:=[i6 6]) 23 ⟨w,w142.heap.size+4,(GU w z b11 cp8 n9 c18 F141 t22 F134 w24 w34 w75 nm w135 w142)⟩ Tryd.func59 rfl (by kernel_rfl) (by kernel_rfl) hw153 ?_
 refine BF 44 0 [0,0,0,0,1] [[o0,o0,o0,o0],[o0],[o0,o0],[o0,o0],[o0,o0],[o0,o0],[o0,o0],[o0,o0,o0],[o0,o0,o0,o0,o0,o0,o0,o0]] [] [(2,.bool true),(3,.bool true),(4,.bool false),(5,.bool true)] rfl Aa ?_
 refine AL [] [] (.tuple #[.bool true,.bool true,.bool false,.bool true]) Aa ?_
 intro w154 hw154
 refine⟨_,_,rfl,hw154, ?_⟩
 refine BI 9 1 [1] [[o0,o0,o0,o0,o0,o0,o0,o0,o0],[o0],[o0]] [] [(FI w142),(EZ w142),(Gz w142),(FC w142),(7,.bool true),(8,.bool false),(9,.bool true),(27,.func (.func 58) #[] #[pt w142.heap.size])] rfl Aa ?_
 refine l_call [] [] 58 #[i6 22,pt w142.heap.size] (some 28) Aa ?_
 intro w155 hw155
 refine A7 (args:=[i6 22,pt w142.heap.size]) 9 ⟨w,w142.heap.size+4,(GU w z b11 cp8 n9 c18 F141 t22 F134 w24 w34 w75 nm w135 w142)⟩ Tryd.func58 rfl (by kernel_rfl) (by kernel_rfl) hw155 ?_
 refine BF 9 0 [] [[o0],[(a1 26),o0,o0,o0,o0,o0]] [Qb w142.heap.size] [(3,i6 2)] rfl ⟨rfl,Aa⟩ ?_
 refine AL [] [] (i6 2) Aa ?_
 intro w156 hw156
 refine⟨_,_,rfl,hw156, ?_⟩
 refine D9 9 1 [1] [[o0,(a1 28)],[o0],[o0]] [Qb (w142.heap.size+2)] [(FI w142),(EZ w142),(Gz w142),(FC w142),(8,.bool false),(9,.bool true),(31,.func (.func 58) #[] #[pt w142.heap.size])] ⟨w,w142.heap.size+4,(IR w z b11 cp8 n9 c18 F141 t22 F134 w24 w34 w75 nm w135 w142)⟩ rfl ⟨rfl,Aa⟩ ?_
 refine l_call [] [] 58 #[i6 18,pt w142.heap.size] (some 32) Aa ?_
 intro w157 hw157
 refine A7 (args:=[i6 18,pt w142.heap.size]) 9 ⟨w,w142.heap.size+4,(IR w z b11 cp8 n9 c18 F141 t22 F134 w24 w34 w75 nm w135 w142)⟩ Tryd.func58 rfl (by kernel_rfl) (by kernel_rfl) hw157 ?_
 refine BF 9 0 [] [[o0],[(a1 26),o0,o0,o0,o0,o0]] [Qb w142.heap.size] [(3,i6 0)] rfl ⟨rfl,Aa⟩ ?_
 refine AL [] [] (i6 0) Aa ?_
 intro w158 hw158
 refine⟨_,_,rfl,hw158, ?_⟩
 refine D9 22 1 [0,1] [[o0,(a1 28)],[o0],[o0],[(a1 26),o0,o0,o0,o0,o0,(a1 28)],[(an 5 28)]] [Qb (w142.heap.size+2),Qb w142.heap.size,Qb (w142.heap.size+2),Qb (w142.heap.size+2),Qb (w142.heap.size+2),Qb (w142.heap.size+2),Qb (w142.heap.size+2),Qb (w142.heap.size+2)] [(FI w142),(EZ w142),(FC w142),(46,.agg #[i6 19,i6 2,i6 0,i6 0,i6 16])] ⟨w,w142.heap.size+4,(IM w z b11 cp8 n9 c18 F141 t22 F134 w24 w34 w75 nm w135 w142)⟩ rfl ⟨rfl,rfl,rfl,rfl,rfl,rfl,rfl,rfl,Aa⟩ ?_
 refine l_call [] [] 61 #[.agg #[i6 19,i6 2,i6 0,i6 0,i6 16]] (some 47) Aa ?_
 intro w159 hw159
 refine A7 (args:=[.agg #[i6 19,i6 2,i6 0,i6 0,i6 16]]) 75 ⟨w,w142.heap.size+4,(IM w z b11 cp8 n9 c18 F141 t22 F134 w24 w34 w75 nm w135 w142)⟩ Tryd.func61 rfl (by kernel_rfl) (by kernel_rfl) hw159 ?_
 refine q_c 6 2 [] [[o0,o0,o0],[o0,(a1 30)]] [Qb (w142.heap.size+4)] [(Eu w142),(11,i6 19)] ⟨w,w142.heap.size+5,(Ho w z b11 cp8 n9 c18 F141 t22 F134 w24 w34 w75 nm w135 w142)⟩ rfl ⟨rfl,Aa⟩ ?_
 refine l_call [] [] 60 #[i6 19] (some 12) Aa ?_
 intro w160 hw160
 refine A7 (args:=[i6 19]) 6 ⟨w,w142.heap.size+5,(Ho w z b11 cp8 n9 c18 F141 t22 F134 w24 w34 w75 nm w135 w142)⟩ Tryd.func60 rfl (by kernel_rfl) (by kernel_rfl) hw160 ?_
 refine BF 6 1 [] [[o0],[o0]] [] [(3,i6 19)] rfl Aa ?_
 refine l_call [] [] 53 #[i6 19] (some 4) Aa ?_
 intro w161 hw161
 refine A7 (args:=[i6 19]) 13 ⟨w,w142.heap.size+5,(Ho w z b11 cp8 n9 c18 F141 t22 F134 w24 w34 w75 nm w135 w142)⟩ Tryd.func53 rfl (by kernel_rfl) (by kernel_rfl) hw161 ?_
 refine q_c 17 0 [0] [[o0],[o0,o0,o0,o0,o0,o0],[o0,(oi 19),(oa [.via 0 (.string (nm 19)),.via 0 (i6 6),.via 0 (i6 1)]),(an 3 31)]] [(19:Int)=((19:Nat):Int),19<31,AU,Old w 0 57 (.string (nm 19)),Old w 0 58 (i6 6),Old w 0 59 (i6 1),Qb (w142.heap.size+5),Qb (w142.heap.size+5),Qb (w142.heap.size+5)] [(2,pt (w142.heap.size+5))] ⟨w,w142.heap.size+6,(FP w z b11 cp8 n9 c18 F141 t22 F134 w24 w34 w75 nm w135 w142)⟩ rfl ⟨rfl,(by omega),rfl,BQ (hL 57 _ rfl),BQ (hL 58 _ rfl),BQ (hL 59 _ rfl),rfl,rfl,rfl,Aa⟩ ?_
 refine AL [.at 31,.at 31,.at 31] [Qb (w142.heap.size+5),Qb (w142.heap.size+5),Qb (w142.heap.size+5)] (.agg #[.string (nm 19),i6 6,i6 1]) ⟨rfl,rfl,rfl,Aa⟩ ?_
 intro w162 hw162
 refine⟨_,_,rfl,hw162, ?_⟩
 refine BI 3 0 [] [[o0,o0]] [] [(2,i6 6)] rfl Aa ?_
 refine AL [] [] (i6 6) Aa ?_
 intro w163 hw163
 refine⟨_,_,rfl,hw163, ?_⟩
 refine Fh [1,12] [(Eu w142),(12,i6 6)] ?_
 refine l_call [] [] 59 #[i6 6] (some 13) Aa ?_
 intro w164 hw164
 refine A7 (args:=[i6 6]) 23 ⟨w,w142.heap.size+6,(FP w z b11 cp8 n9 c18 F141 t22 F134 w24 w34 w75 nm w135 w142)⟩ Tryd.func59 rfl (by kernel_rfl) (by kernel_rfl) hw164 ?_
 refine BF 44 0 [0,0,0,0,1] [[o0,o0,o0,o0],[o0],[o0,o0],[o0,o0],[o0,o0],[o0,o0],[o0,o0],[o0,o0,o0],[o0,o0,o0,o0,o0,o0,o0,o0]] [] [(2,.bool true),(3,.bool true),(4,.bool false),(5,.bool true)] rfl Aa ?_
 refine AL [] [] (.tuple #[.bool true,.bool true,.bool false,.bool true]) Aa ?_
 intro w165 hw165
 refine⟨_,_,rfl,hw165, ?_⟩
 refine BI 5 2 [] [[o0,o0,o0,o0,o0,o0,o0,o0,o0],[o0,(a1 30)]] [Qb (w142.heap.size+4)] [(Eu w142),(4,.bool true),(5,.bool true),(6,.bool false),(7,.bool true),(19,i6 19)] rfl ⟨rfl,Aa⟩ ?_
 refine l_call [] [] 60 #[i6 19] (some 20) Aa ?_
 intro w166 hw166
 refine A7 (args:=[i6 19]) 6 ⟨w,w142.heap.size+6,(FP w z b11 cp8 n9 c18 F141 t22 F134 w24 w34 w75 nm w135 w142)⟩ Tryd.func60 rfl (by kernel_rfl) (by kernel_rfl) hw166 ?_
 refine BF 6 1 [] [[o0],[o0]] [] [(3,i6 19)] rfl Aa ?_
 refine l_call [] [] 53 #[i6 19] (some 4) Aa ?_
 intro w167 hw167
 refine A7 (args:=[i6 19]) 13 ⟨w,w142.heap.size+6,(FP w z b11 cp8 n9 c18 F141 t22 F134 w24 w34 w75 nm w135 w142)⟩ Tryd.func53 rfl (by kernel_rfl) (by kernel_rfl) hw167 ?_
 refine q_c 17 0 [0] [[o0],[o0,o0,o0,o0,o0,o0],[o0,(oi 19),(oa [.via 0 (.string (nm 19)),.via 0 (i6 6),.via 0 (i6 1)]),(an 3 32)]] [(19:Int)=((19:Nat):Int),19<31,AU,Old w 0 57 (.string (nm 19)),Old w 0 58 (i6 6),Old w 0 59 (i6 1),Qb (w142.heap.size+6),Qb (w142.heap.size+6),Qb (w142.heap.size+6)] [(2,pt (w142.heap.size+6))] ⟨w,w142.heap.size+7,(Fp w z b11 cp8 n9 c18 F141 t22 F134 w24 w34 w75 nm w135 w142)⟩ rfl ⟨rfl,(by omega),rfl,BQ (hL 57 _ rfl),BQ (hL 58 _ rfl),BQ (hL 59 _ rfl),rfl,rfl,rfl,Aa⟩ ?_
 refine AL [.at 32,.at 32,.at 32] [Qb (w142.heap.size+6),Qb (w142.heap.size+6),Qb (w142.heap.size+6)] (.agg #[.string (nm 19),i6 6,i6 1]) ⟨rfl,rfl,rfl,Aa⟩ ?_
 intro w168 hw168
 refine⟨_,_,rfl,hw168, ?_⟩
 refine BI 3 0 [] [[o0,o0]] [] [(2,i6 6)] rfl Aa ?_
 refine AL [] [] (i6 6) Aa ?_
 intro w169 hw169
 refine⟨_,_,rfl,hw169, ?_⟩
 refine BI 0 5 [] [[o0,o0,o0,o0,(a1 30)]] [Qb (w142.heap.size+4)] [(Eu w142),(5,.bool true),(6,.bool false),(7,.bool true),(22,.bool false),(23,.bool true),(25,i6 2)] rfl ⟨rfl,Aa⟩ ?_
 refine l_call [] [] 74 #[.bool true,i6 2,i6 0,i6 15] (some 26) Aa ?_
 intro w170 hw170
 refine A7 (args:=[.bool true,i6 2,i6 0,i6 15]) 21 ⟨w,w142.heap.size+7,(Fp w z b11 cp8 n9 c18 F141 t22 F134 w24 w34 w75 nm w135 w142)⟩ Tryd.func74 rfl (by kernel_rfl) (by kernel_rfl) hw170 ?_
 refine BF 17 0 [0] [[o0],[o0,o0],[o0,o0,o0,o0,o0,o0,o0,o0,o0]] [] [(8,.bool true)] rfl Aa ?_
 refine AL [] [] (.bool true) Aa ?_
 intro w171 hw171
 refine⟨_,_,rfl,hw171, ?_⟩
 refine BI 0 6 [] [[o0,o0,o0,o0,o0,(a1 30)]] [Qb (w142.heap.size+4)] [(Eu w142),(6,.bool false),(7,.bool true),(29,.bool false),(30,.bool true),(32,i6 0)] rfl ⟨rfl,Aa⟩ ?_
 refine l_call [] [] 74 #[.bool true,i6 0,i6 0,i6 15] (some 33) Aa ?_
 intro w172 hw172
 refine A7 (args:=[.bool true,i6 0,i6 0,i6 15]) 21 ⟨w,w142.heap.size+7,(Fp w z b11 cp8 n9 c18 F141 t22 F134 w24 w34 w75 nm w135 w142)⟩ Tryd.func74 rfl (by kernel_rfl) (by kernel_rfl) hw172 ?_
 refine BF 17 0 [0] [[o0],[o0,o0],[o0,o0,o0,o0,o0,o0,o0,o0,o0]] [] [(8,.bool true)] rfl Aa ?_
 refine AL [] [] (.bool true) Aa ?_
 intro w173 hw173
 refine⟨_,_,rfl,hw173, ?_⟩
 refine BI 0 6 [] [[o0,o0,o0,o0,o0,(a1 30)]] [Qb (w142.heap.size+4)] [(Eu w142),(7,.bool true),(36,.bool false),(37,.bool false),(39,i6 0)] rfl ⟨rfl,Aa⟩ ?_
 refine l_call [] [] 74 #[.bool false,i6 0,i6 0,i6 15] (some 40) Aa ?_
 intro w174 hw174
 refine A7 (args:=[.bool false,i6 0,i6 0,i6 15]) 21 ⟨w,w142.heap.size+7,(Fp w z b11 cp8 n9 c18 F141 t22 F134 w24 w34 w75 nm w135 w142)⟩ Tryd.func74 rfl (by kernel_rfl) (by kernel_rfl) hw174 ?_
 refine BF 15 0 [1] [[o0],[o0,o0],[o0,o0,o0]] [] [(8,.bool true)] rfl Aa ?_
 refine AL [] [] (.bool true) Aa ?_
 intro w175 hw175
 refine⟨_,_,rfl,hw175, ?_⟩
 refine BI 0 6 [] [[o0,o0,o0,o0,o0,(a1 30)]] [Qb (w142.heap.size+4)] [(Eu w142),(43,.bool false),(44,.bool true),(46,i6 16)] rfl ⟨rfl,Aa⟩ ?_
 refine l_call [] [] 74 #[.bool true,i6 16,i6 (-131072),i6 131071] (some 47) Aa ?_
 intro w176 hw176
 refine A7 (args:=[.bool true,i6 16,i6 (-131072),i6 131071]) 21 ⟨w,w142.heap.size+7,(Fp w z b11 cp8 n9 c18 F141 t22 F134 w24 w34 w75 nm w135 w142)⟩ Tryd.func74 rfl (by kernel_rfl) (by kernel_rfl) hw176 ?_
 refine BF 17 0 [0] [[o0],[o0,o0],[o0,o0,o0,o0,o0,o0,o0,o0,o0]] [] [(8,.bool true)] rfl Aa ?_
 refine AL [] [] (.bool true) Aa ?_
 intro w177 hw177
 refine⟨_,_,rfl,hw177, ?_⟩
 refine BI 14 0 [0] [[o0,o0],[o0,(a1 30),o0,o0,o0],[o0,(a1 30),o0,o0,o0,(a1 30),o0,o0,o0,o0,(a1 30),o0,o0,o0,o0,(a1 30),o0,o0,o0,o0,o0,o0,o0]] [Qb (w142.heap.size+4),Qb (w142.heap.size+4),Qb (w142.heap.size+4),Qb (w142.heap.size+4),Qb (w142.heap.size+4)] [(2,.int .u32 1283457040),(3,i6 0)] rfl ⟨rfl,rfl,rfl,rfl,rfl,Aa⟩ ?_
 refine AL [] [] (.tuple #[.int .u32 1283457040,i6 0]) Aa ?_
 intro w178 hw178
 refine⟨_,_,rfl,hw178, ?_⟩
 refine D9 14 0 [0] [[o0,o0,o0,o0,o0],[o0,o0,o0,o0,(a1 26),o0,o0],[(an 5 28),(an 5 27),o0]] [Qb w142.heap.size,Qb (w142.heap.size+2),Qb (w142.heap.size+2),Qb (w142.heap.size+2),Qb (w142.heap.size+2),Qb (w142.heap.size+2),Qb (w142.heap.size+1),Qb (w142.heap.size+1),Qb (w142.heap.size+1),Qb (w142.heap.size+1),Qb (w142.heap.size+1)] [(EZ w142),(3,i6 0)] ⟨w,w142.heap.size+7,[(A8 w),(Ad z),(Ac z b11 cp8),(Ae n9 b11 cp8),(Ca.Am c18 F141 (Ca.put (Ca.put (fun _=>[]) (((32:Int) / 4 % 4).toNat) (Ca.touch ((fun _=>[]) (((32:Int) / 4 % 4).toNat)) ((32:Int) / 4))) (((33:Int) / 4 % 4).toNat) (Ca.touch ((Ca.put (fun _=>[]) (((32:Int) / 4 % 4).toNat) (Ca.touch ((fun _=>[]) (((32:Int) / 4 % 4).toNat)) ((32:Int) / 4))) (((33:Int) / 4 % 4).toNat)) ((33:Int) / 4)))),(Tl.AA t22 F134 (AO [(⟨0,2,7⟩:Ag)])),(AX w24 c18 t22),(AQ w24),(AP w24 n9),(Ai w34),(Ah w34),(Aj w75),(Aw w75),(Ap w75),(Ak w75 nm),(Aq w75),(Ar w75 nm),(Au w75 nm),(Az w75),(Be w75),(Bd w75),(AC w75 nm),(AV w75),(Ba w75),(Ed w75 w24 n9),(AY w135),(Bf w142),(Bq w142),(Bh w142),(Bg w142 nm),(Bi w142),(Bj w142 nm),(Bl w142 nm)]⟩ rfl ⟨rfl,rfl,rfl,rfl,rfl,rfl,rfl,rfl,rfl,rfl,rfl,Aa⟩ ?_
 refine AL [.at 27,.at 27,.at 27,.at 27,.at 27] [Qb (w142.heap.size+1),Qb (w142.heap.size+1),Qb (w142.heap.size+1),Qb (w142.heap.size+1),Qb (w142.heap.size+1)] (.tuple #[.agg #[i6 19,i6 2,i6 0,i6 0,i6 16],i6 0]) ⟨rfl,rfl,rfl,rfl,rfl,Aa⟩ ?_
 intro w179 hw179
 refine⟨_,_,rfl,hw179, ?_⟩
 refine D9 19 0 [0] [[o0,o0,o0,o0,(an 5 33),o0],[o0,o0],[o0,(an 5 33),o0,o0,(an 5 24)],[o0]] [Qb (w142.heap.size+7),Qb (w142.heap.size+7),Qb (w142.heap.size+7),Qb (w142.heap.size+7),Qb (w142.heap.size+7),Qb (w142.heap.size+7),Qb (w142.heap.size+7),Qb (w142.heap.size+7),Qb (w142.heap.size+7),Qb (w142.heap.size+7),Qb (w75.heap.size+13),Qb (w75.heap.size+13),Qb (w75.heap.size+13),Qb (w75.heap.size+13),Qb (w75.heap.size+13)] [(2,i6 0)] ⟨w,w142.heap.size+8,[(A8 w),(Ad z),(Ac z b11 cp8),(Ae n9 b11 cp8),(Ca.Am c18 F141 (Ca.put (Ca.put (fun _=>[]) (((32:Int) / 4 % 4).toNat) (Ca.touch ((fun _=>[]) (((32:Int) / 4 % 4).toNat)) ((32:Int) / 4))) (((33:Int) / 4 % 4).toNat) (Ca.touch ((Ca.put (fun _=>[]) (((32:Int) / 4 % 4).toNat) (Ca.touch ((fun _=>[]) (((32:Int) / 4 % 4).toNat)) ((32:Int) / 4))) (((33:Int) / 4 % 4).toNat)) ((33:Int) / 4)))),(Tl.AA t22 F134 (AO [(⟨0,2,7⟩:Ag)])),(AX w24 c18 t22),(AQ w24),(AP w24 n9),(Ai w34),(Ah w34),(Aj w75),(Aw w75),(Ap w75),(Ak w75 nm),(Aq w75),(Ar w75 nm),(Au w75 nm),(Az w75),(Be w75),(Bd w75),(AC w75 nm),(AV w75),(Ba w75),(bk (w75.heap.size+13) #[.int .u32 0,.int .u32 5,.int .u32 0,.int .u32 0,.int .u32 0,.int .u32 0,.int .u32 0,.int .u32 0,.int .u32 0,.int .u32 0,.int .u32 0,.int .u32 0,.int .u32 0,.int .u32 0,.int .u32 0,.int .u32 0,.int .u32 1,pt w24.heap.size,pt n9,i6 0,.int .u32 914,i6 19,i6 2,i6 0,i6 0,i6 16,i6 1,i6 0,i6 (-1),.int .u32 1,.int .u32 1283457040,.bool false,.int .u32 0,.int .u32 0] 79),(AY w135),(Bf w142),(Bq w142),(Bh w142),(Bg w142 nm),(Bi w142),(Bj w142 nm),(Bl w142 nm),(Bv w142)]⟩ rfl ⟨rfl,rfl,rfl,rfl,rfl,rfl,rfl,rfl,rfl,rfl,rfl,rfl,rfl,rfl,rfl,Aa⟩ ?_
 refine AL [] [] (i6 0) Aa ?_
 intro w180 hw180
 refine⟨_,_,rfl,hw180, ?_⟩
 refine D9 12 0 [1] [[o0],[o0,o0],[o0,o0,o0,o0,(a1 24),o0,o0,o0,o0,(a1 24)]] [Qb (w75.heap.size+13),Qb (w75.heap.size+13)] [(Cf w24),(Dk w75),(Du w75)] ⟨w,w142.heap.size+8,(Hw w z b11 cp8 n9 c18 F141 t22 F134 w24 w34 w75 nm w135 w142)⟩ rfl ⟨rfl,rfl,Aa⟩ ?_
 refine Dw 8 [0,1,2,3,4,5,6,7,8,9,10,11,12,13,14,15,16,17,18,19,20,21,22,23,24,25,26,27,28,29,30,31,32,33] (Hw w z b11 cp8 n9 c18 F141 t22 F134 w24 w34 w75 nm w135 w142) rfl rfl ?_
 refine Cb [(1,o0),(2,o0),(3,o0),(4,o0),(5,(a1 24)),(7,o0)] [0,8,10,71,73] [Qb (w75.heap.size+13)] [false,true,true,true,true,true,false,true,false,false] [(Cf w24),(Dk w75),(Du w75),(71,i6 19),(73,pt (w75.heap.size+13))] ⟨rfl,Aa⟩ ?_
 refine CU 0 ?_
 refine Dj [] [] 28 #[] (some 66) (by as_aux_lemma=>kernel_rfl) rfl rfl Aa ?_
 intro w181 hw181
 refine A7 (args:=[]) 29 ⟨w,w142.heap.size+8,(Hw w z b11 cp8 n9 c18 F141 t22 F134 w24 w34 w75 nm w135 w142)⟩ Tryd.func28 rfl (by kernel_rfl) (by kernel_rfl) hw181 ?_
 refine q_c 14 0 [] [[o0],[o0],[o0]] [] [(BK w142),(BP w142),(4,i6 0)] ⟨w,w142.heap.size+10,[(A8 w),(Ad z),(Ac z b11 cp8),(Ae n9 b11 cp8),(Ca.Am c18 F141 (Ca.put (Ca.put (fun _=>[]) (((32:Int) / 4 % 4).toNat) (Ca.touch ((fun _=>[]) (((32:Int) / 4 % 4).toNat)) ((32:Int) / 4))) (((33:Int) / 4 % 4).toNat) (Ca.touch ((Ca.put (fun _=>[]) (((32:Int) / 4 % 4).toNat) (Ca.touch ((fun _=>[]) (((32:Int) / 4 % 4).toNat)) ((32:Int) / 4))) (((33:Int) / 4 % 4).toNat)) ((33:Int) / 4)))),(Tl.AA t22 F134 (AO [(⟨0,2,7⟩:Ag)])),(AX w24 c18 t22),(AQ w24),(AP w24 n9),(Ai w34),(Ah w34),(Aj w75),(Aw w75),(Ap w75),(Ak w75 nm),(Aq w75),(Ar w75 nm),(Au w75 nm),(Az w75),(Be w75),(Bd w75),(AC w75 nm),(AV w75),(Ba w75),(BR w75 w24 n9),(AY w135),(Bf w142),(Bq w142),(Bh w142),(Bg w142 nm),(Bi w142),(Bj w142 nm),(Bl w142 nm),(Bv w142),(BM w142),(bk (w142.heap.size+9) #[.nilFunc,.nilFunc,.nilFunc,.nilFunc,.nilFunc,.nilFunc,.nilFunc,.nilFunc,.nilFunc,.nilFunc,.nilFunc,.nilFunc,.nilFunc,.nilFunc,.nilFunc,.nilFunc,.nilFunc,.nilFunc,.nilFunc,.nilFunc,.nilFunc,.nilFunc,.nilFunc,.nilFunc,.nilFunc,.nilFunc,.nilFunc,.nilFunc,.nilFunc,.nilFunc,.nilFunc] 82)]⟩ rfl Aa ?_
 refine FQ 40 ?_
 refine q_c 20 0 [1] [[o0],[o0,o0],[o0,(oi 0),(a1 35)],[o0,o0]] [(0:Int)=((0:Nat):Int),0<31,AU,Qb (w142.heap.size+9)] [(BK w142),(BP w142),(4,i6 1)] ⟨w,w142.heap.size+10,[(A8 w),(Ad z),(Ac z b11 cp8),(Ae n9 b11 cp8),(Ca.Am c18 F141 (Ca.put (Ca.put (fun _=>[]) (((32:Int) / 4 % 4).toNat) (Ca.touch ((fun _=>[]) (((32:Int) / 4 % 4).toNat)) ((32:Int) / 4))) (((33:Int) / 4 % 4).toNat) (Ca.touch ((Ca.put (fun _=>[]) (((32:Int) / 4 % 4).toNat) (Ca.touch ((fun _=>[]) (((32:Int) / 4 % 4).toNat)) ((32:Int) / 4))) (((33:Int) / 4 % 4).toNat)) ((33:Int) / 4)))),(Tl.AA t22 F134 (AO [(⟨0,2,7⟩:Ag)])),(AX w24 c18 t22),(AQ w24),(AP w24 n9),(Ai w34),(Ah w34),(Aj w75),(Aw w75),(Ap w75),(Ak w75 nm),(Aq w75),(Ar w75 nm),(Au w75 nm),(Az w75),(Be w75),(Bd w75),(AC w75 nm),(AV w75),(Ba w75),(BR w75 w24 n9),(AY w135),(Bf w142),(Bq w142),(Bh w142),(Bg w142 nm),(Bi w142),(Bj w142 nm),(Bl w142 nm),(Bv w142),(BM w142),(bk (w142.heap.size+9) #[.func (.func 39) #[] #[],.nilFunc,.nilFunc,.nilFunc,.nilFunc,.nilFunc,.nilFunc,.nilFunc,.nilFunc,.nilFunc,.nilFunc,.nilFunc,.nilFunc,.nilFunc,.nilFunc,.nilFunc,.nilFunc,.nilFunc,.nilFunc,.nilFunc,.nilFunc,.nilFunc,.nilFunc,.nilFunc,.nilFunc,.nilFunc,.nilFunc,.nilFunc,.nilFunc,.nilFunc,.nilFunc] 82)]⟩ rfl ⟨rfl,(by omega),rfl,rfl,Aa⟩ ?_
 refine AB ?_
 refine q_c 20 0 [1] [[o0],[o0,o0],[o0,(oi 1),(a1 35)],[o0,o0]] [(1:Int)=((1:Nat):Int),1<31,AU,Qb (w142.heap.size+9)] [(BK w142),(BP w142),(4,i6 2)] ⟨w,w142.heap.size+10,[(A8 w),(Ad z),(Ac z b11 cp8),(Ae n9 b11 cp8),(Ca.Am c18 F141 (Ca.put (Ca.put (fun _=>[]) (((32:Int) / 4 % 4).toNat) (Ca.touch ((fun _=>[]) (((32:Int) / 4 % 4).toNat)) ((32:Int) / 4))) (((33:Int) / 4 % 4).toNat) (Ca.touch ((Ca.put (fun _=>[]) (((32:Int) / 4 % 4).toNat) (Ca.touch ((fun _=>[]) (((32:Int) / 4 % 4).toNat)) ((32:Int) / 4))) (((33:Int) / 4 % 4).toNat)) ((33:Int) / 4)))),(Tl.AA t22 F134 (AO [(⟨0,2,7⟩:Ag)])),(AX w24 c18 t22),(AQ w24),(AP w24 n9),(Ai w34),(Ah w34),(Aj w75),(Aw w75),(Ap w75),(Ak w75 nm),(Aq w75),(Ar w75 nm),(Au w75 nm),(Az w75),(Be w75),(Bd w75),(AC w75 nm),(AV w75),(Ba w75),(BR w75 w24 n9),(AY w135),(Bf w142),(Bq w142),(Bh w142),(Bg w142 nm),(Bi w142),(Bj w142 nm),(Bl w142 nm),(Bv w142),(BM w142),(bk (w142.heap.size+9) #[.func (.func 39) #[] #[],.func (.func 39) #[] #[],.nilFunc,.nilFunc,.nilFunc,.nilFunc,.nilFunc,.nilFunc,.nilFunc,.nilFunc,.nilFunc,.nilFunc,.nilFunc,.nilFunc,.nilFunc,.nilFunc,.nilFunc,.nilFunc,.nilFunc,.nilFunc,.nilFunc,.nilFunc,.nilFunc,.nilFunc,.nilFunc,.nilFunc,.nilFunc,.nilFunc,.nilFunc,.nilFunc,.nilFunc] 82)]⟩ rfl ⟨rfl,(by omega),rfl,rfl,Aa⟩ ?_
 refine AB ?_
 refine q_c 20 0 [1] [[o0],[o0,o0],[o0,(oi 2),(a1 35)],[o0,o0]] [(2:Int)=((2:Nat):Int),2<31,AU,Qb (w142.heap.size+9)] [(BK w142),(BP w142),(4,i6 3)] ⟨w,w142.heap.size+10,[(A8 w),(Ad z),(Ac z b11 cp8),(Ae n9 b11 cp8),(Ca.Am c18 F141 (Ca.put (Ca.put (fun _=>[]) (((32:Int) / 4 % 4).toNat) (Ca.touch ((fun _=>[]) (((32:Int) / 4 % 4).toNat)) ((32:Int) / 4))) (((33:Int) / 4 % 4).toNat) (Ca.touch ((Ca.put (fun _=>[]) (((32:Int) / 4 % 4).toNat) (Ca.touch ((fun _=>[]) (((32:Int) / 4 % 4).toNat)) ((32:Int) / 4))) (((33:Int) / 4 % 4).toNat)) ((33:Int) / 4)))),(Tl.AA t22 F134 (AO [(⟨0,2,7⟩:Ag)])),(AX w24 c18 t22),(AQ w24),(AP w24 n9),(Ai w34),(Ah w34),(Aj w75),(Aw w75),(Ap w75),(Ak w75 nm),(Aq w75),(Ar w75 nm),(Au w75 nm),(Az w75),(Be w75),(Bd w75),(AC w75 nm),(AV w75),(Ba w75),(BR w75 w24 n9),(AY w135),(Bf w142),(Bq w142),(Bh w142),(Bg w142 nm),(Bi w142),(Bj w142 nm),(Bl w142 nm),(Bv w142),(BM w142),(bk (w142.heap.size+9) #[.func (.func 39) #[] #[],.func (.func 39) #[] #[],.func (.func 39) #[] #[],.nilFunc,.nilFunc,.nilFunc,.nilFunc,.nilFunc,.nilFunc,.nilFunc,.nilFunc,.nilFunc,.nilFunc,.nilFunc,.nilFunc,.nilFunc,.nilFunc,.nilFunc,.nilFunc,.nilFunc,.nilFunc,.nilFunc,.nilFunc,.nilFunc,.nilFunc,.nilFunc,.nilFunc,.nilFunc,.nilFunc,.nilFunc,.nilFunc] 82)]⟩ rfl ⟨rfl,(by omega),rfl,rfl,Aa⟩ ?_
 refine AB ?_
 refine q_c 20 0 [1] [[o0],[o0,o0],[o0,(oi 3),(a1 35)],[o0,o0]] [(3:Int)=((3:Nat):Int),3<31,AU,Qb (w142.heap.size+9)] [(BK w142),(BP w142),(4,i6 4)] ⟨w,w142.heap.size+10,[(A8 w),(Ad z),(Ac z b11 cp8),(Ae n9 b11 cp8),(Ca.Am c18 F141 (Ca.put (Ca.put (fun _=>[]) (((32:Int) / 4 % 4).toNat) (Ca.touch ((fun _=>[]) (((32:Int) / 4 % 4).toNat)) ((32:Int) / 4))) (((33:Int) / 4 % 4).toNat) (Ca.touch ((Ca.put (fun _=>[]) (((32:Int) / 4 % 4).toNat) (Ca.touch ((fun _=>[]) (((32:Int) / 4 % 4).toNat)) ((32:Int) / 4))) (((33:Int) / 4 % 4).toNat)) ((33:Int) / 4)))),(Tl.AA t22 F134 (AO [(⟨0,2,7⟩:Ag)])),(AX w24 c18 t22),(AQ w24),(AP w24 n9),(Ai w34),(Ah w34),(Aj w75),(Aw w75),(Ap w75),(Ak w75 nm),(Aq w75),(Ar w75 nm),(Au w75 nm),(Az w75),(Be w75),(Bd w75),(AC w75 nm),(AV w75),(Ba w75),(BR w75 w24 n9),(AY w135),(Bf w142),(Bq w142),(Bh w142),(Bg w142 nm),(Bi w142),(Bj w142 nm),(Bl w142 nm),(Bv w142),(BM w142),(bk (w142.heap.size+9) #[.func (.func 39) #[] #[],.func (.func 39) #[] #[],.func (.func 39) #[] #[],.func (.func 39) #[] #[],.nilFunc,.nilFunc,.nilFunc,.nilFunc,.nilFunc,.nilFunc,.nilFunc,.nilFunc,.nilFunc,.nilFunc,.nilFunc,.nilFunc,.nilFunc,.nilFunc,.nilFunc,.nilFunc,.nilFunc,.nilFunc,.nilFunc,.nilFunc,.nilFunc,.nilFunc,.nilFunc,.nilFunc,.nilFunc,.nilFunc,.nilFunc] 82)]⟩ rfl ⟨rfl,(by omega),rfl,rfl,Aa⟩ ?_
 refine AB ?_
 refine q_c 20 0 [1] [[o0],[o0,o0],[o0,(oi 4),(a1 35)],[o0,o0]] [(4:Int)=((4:Nat):Int),4<31,AU,Qb (w142.heap.size+9)] [(BK w142),(BP w142),(4,i6 5)] ⟨w,w142.heap.size+10,[(A8 w),(Ad z),(Ac z b11 cp8),(Ae n9 b11 cp8),(Ca.Am c18 F141 (Ca.put (Ca.put (fun _=>[]) (((32:Int) / 4 % 4).toNat) (Ca.touch ((fun _=>[]) (((32:Int) / 4 % 4).toNat)) ((32:Int) / 4))) (((33:Int) / 4 % 4).toNat) (Ca.touch ((Ca.put (fun _=>[]) (((32:Int) / 4 % 4).toNat) (Ca.touch ((fun _=>[]) (((32:Int) / 4 % 4).toNat)) ((32:Int) / 4))) (((33:Int) / 4 % 4).toNat)) ((33:Int) / 4)))),(Tl.AA t22 F134 (AO [(⟨0,2,7⟩:Ag)])),(AX w24 c18 t22),(AQ w24),(AP w24 n9),(Ai w34),(Ah w34),(Aj w75),(Aw w75),(Ap w75),(Ak w75 nm),(Aq w75),(Ar w75 nm),(Au w75 nm),(Az w75),(Be w75),(Bd w75),(AC w75 nm),(AV w75),(Ba w75),(BR w75 w24 n9),(AY w135),(Bf w142),(Bq w142),(Bh w142),(Bg w142 nm),(Bi w142),(Bj w142 nm),(Bl w142 nm),(Bv w142),(BM w142),(bk (w142.heap.size+9) #[.func (.func 39) #[] #[],.func (.func 39) #[] #[],.func (.func 39) #[] #[],.func (.func 39) #[] #[],.func (.func 39) #[] #[],.nilFunc,.nilFunc,.nilFunc,.nilFunc,.nilFunc,.nilFunc,.nilFunc,.nilFunc,.nilFunc,.nilFunc,.nilFunc,.nilFunc,.nilFunc,.nilFunc,.nilFunc,.nilFunc,.nilFunc,.nilFunc,.nilFunc,.nilFunc,.nilFunc,.nilFunc,.nilFunc,.nilFunc,.nilFunc,.nilFunc] 82)]⟩ rfl ⟨rfl,(by omega),rfl,rfl,Aa⟩ ?_
 refine AB ?_
 refine q_c 20 0 [1] [[o0],[o0,o0],[o0,(oi 5),(a1 35)],[o0,o0]] [(5:Int)=((5:Nat):Int),5<31,AU,Qb (w142.heap.size+9)] [(BK w142),(BP w142),(4,i6 6)] ⟨w,w142.heap.size+10,[(A8 w),(Ad z),(Ac z b11 cp8),(Ae n9 b11 cp8),(Ca.Am c18 F141 (Ca.put (Ca.put (fun _=>[]) (((32:Int) / 4 % 4).toNat) (Ca.touch ((fun _=>[]) (((32:Int) / 4 % 4).toNat)) ((32:Int) / 4))) (((33:Int) / 4 % 4).toNat) (Ca.touch ((Ca.put (fun _=>[]) (((32:Int) / 4 % 4).toNat) (Ca.touch ((fun _=>[]) (((32:Int) / 4 % 4).toNat)) ((32:Int) / 4))) (((33:Int) / 4 % 4).toNat)) ((33:Int) / 4)))),(Tl.AA t22 F134 (AO [(⟨0,2,7⟩:Ag)])),(AX w24 c18 t22),(AQ w24),(AP w24 n9),(Ai w34),(Ah w34),(Aj w75),(Aw w75),(Ap w75),(Ak w75 nm),(Aq w75),(Ar w75 nm),(Au w75 nm),(Az w75),(Be w75),(Bd w75),(AC w75 nm),(AV w75),(Ba w75),(BR w75 w24 n9),(AY w135),(Bf w142),(Bq w142),(Bh w142),(Bg w142 nm),(Bi w142),(Bj w142 nm),(Bl w142 nm),(Bv w142),(BM w142),(bk (w142.heap.size+9) #[.func (.func 39) #[] #[],.func (.func 39) #[] #[],.func (.func 39) #[] #[],.func (.func 39) #[] #[],.func (.func 39) #[] #[],.func (.func 39) #[] #[],.nilFunc,.nilFunc,.nilFunc,.nilFunc,.nilFunc,.nilFunc,.nilFunc,.nilFunc,.nilFunc,.nilFunc,.nilFunc,.nilFunc,.nilFunc,.nilFunc,.nilFunc,.nilFunc,.nilFunc,.nilFunc,.nilFunc,.nilFunc,.nilFunc,.nilFunc,.nilFunc,.nilFunc,.nilFunc] 82)]⟩ rfl ⟨rfl,(by omega),rfl,rfl,Aa⟩ ?_
 refine AB ?_
 refine q_c 20 0 [1] [[o0],[o0,o0],[o0,(oi 6),(a1 35)],[o0,o0]] [(6:Int)=((6:Nat):Int),6<31,AU,Qb (w142.heap.size+9)] [(BK w142),(BP w142),(4,i6 7)] ⟨w,w142.heap.size+10,[(A8 w),(Ad z),(Ac z b11 cp8),(Ae n9 b11 cp8),(Ca.Am c18 F141 (Ca.put (Ca.put (fun _=>[]) (((32:Int) / 4 % 4).toNat) (Ca.touch ((fun _=>[]) (((32:Int) / 4 % 4).toNat)) ((32:Int) / 4))) (((33:Int) / 4 % 4).toNat) (Ca.touch ((Ca.put (fun _=>[]) (((32:Int) / 4 % 4).toNat) (Ca.touch ((fun _=>[]) (((32:Int) / 4 % 4).toNat)) ((32:Int) / 4))) (((33:Int) / 4 % 4).toNat)) ((33:Int) / 4)))),(Tl.AA t22 F134 (AO [(⟨0,2,7⟩:Ag)])),(AX w24 c18 t22),(AQ w24),(AP w24 n9),(Ai w34),(Ah w34),(Aj w75),(Aw w75),(Ap w75),(Ak w75 nm),(Aq w75),(Ar w75 nm),(Au w75 nm),(Az w75),(Be w75),(Bd w75),(AC w75 nm),(AV w75),(Ba w75),(BR w75 w24 n9),(AY w135),(Bf w142),(Bq w142),(Bh w142),(Bg w142 nm),(Bi w142),(Bj w142 nm),(Bl w142 nm),(Bv w142),(BM w142),(bk (w142.heap.size+9) #[.func (.func 39) #[] #[],.func (.func 39) #[] #[],.func (.func 39) #[] #[],.func (.func 39) #[] #[],.func (.func 39) #[] #[],.func (.func 39) #[] #[],.func (.func 39) #[] #[],.nilFunc,.nilFunc,.nilFunc,.nilFunc,.nilFunc,.nilFunc,.nilFunc,.nilFunc,.nilFunc,.nilFunc,.nilFunc,.nilFunc,.nilFunc,.nilFunc,.nilFunc,.nilFunc,.nilFunc,.nilFunc,.nilFunc,.nilFunc,.nilFunc,.nilFunc,.nilFunc,.nilFunc] 82)]⟩ rfl ⟨rfl,(by omega),rfl,rfl,Aa⟩ ?_
 refine AB ?_
 refine q_c 20 0 [1] [[o0],[o0,o0],[o0,(oi 7),(a1 35)],[o0,o0]] [(7:Int)=((7:Nat):Int),7<31,AU,Qb (w142.heap.size+9)] [(BK w142),(BP w142),(4,i6 8)] ⟨w,w142.heap.size+10,[(A8 w),(Ad z),(Ac z b11 cp8),(Ae n9 b11 cp8),(Ca.Am c18 F141 (Ca.put (Ca.put (fun _=>[]) (((32:Int) / 4 % 4).toNat) (Ca.touch ((fun _=>[]) (((32:Int) / 4 % 4).toNat)) ((32:Int) / 4))) (((33:Int) / 4 % 4).toNat) (Ca.touch ((Ca.put (fun _=>[]) (((32:Int) / 4 % 4).toNat) (Ca.touch ((fun _=>[]) (((32:Int) / 4 % 4).toNat)) ((32:Int) / 4))) (((33:Int) / 4 % 4).toNat)) ((33:Int) / 4)))),(Tl.AA t22 F134 (AO [(⟨0,2,7⟩:Ag)])),(AX w24 c18 t22),(AQ w24),(AP w24 n9),(Ai w34),(Ah w34),(Aj w75),(Aw w75),(Ap w75),(Ak w75 nm),(Aq w75),(Ar w75 nm),(Au w75 nm),(Az w75),(Be w75),(Bd w75),(AC w75 nm),(AV w75),(Ba w75),(BR w75 w24 n9),(AY w135),(Bf w142),(Bq w142),(Bh w142),(Bg w142 nm),(Bi w142),(Bj w142 nm),(Bl w142 nm),(Bv w142),(BM w142),(bk (w142.heap.size+9) #[.func (.func 39) #[] #[],.func (.func 39) #[] #[],.func (.func 39) #[] #[],.func (.func 39) #[] #[],.func (.func 39) #[] #[],.func (.func 39) #[] #[],.func (.func 39) #[] #[],.func (.func 39) #[] #[],.nilFunc,.nilFunc,.nilFunc,.nilFunc,.nilFunc,.nilFunc,.nilFunc,.nilFunc,.nilFunc,.nilFunc,.nilFunc,.nilFunc,.nilFunc,.nilFunc,.nilFunc,.nilFunc,.nilFunc,.nilFunc,.nilFunc,.nilFunc,.nilFunc,.nilFunc,.nilFunc] 82)]⟩ rfl ⟨rfl,(by omega),rfl,rfl,Aa⟩ ?_
 refine AB ?_
 refine q_c 20 0 [1] [[o0],[o0,o0],[o0,(oi 8),(a1 35)],[o0,o0]] [(8:Int)=((8:Nat):Int),8<31,AU,Qb (w142.heap.size+9)] [(BK w142),(BP w142),(4,i6 9)] ⟨w,w142.heap.size+10,[(A8 w),(Ad z),(Ac z b11 cp8),(Ae n9 b11 cp8),(Ca.Am c18 F141 (Ca.put (Ca.put (fun _=>[]) (((32:Int) / 4 % 4).toNat) (Ca.touch ((fun _=>[]) (((32:Int) / 4 % 4).toNat)) ((32:Int) / 4))) (((33:Int) / 4 % 4).toNat) (Ca.touch ((Ca.put (fun _=>[]) (((32:Int) / 4 % 4).toNat) (Ca.touch ((fun _=>[]) (((32:Int) / 4 % 4).toNat)) ((32:Int) / 4))) (((33:Int) / 4 % 4).toNat)) ((33:Int) / 4)))),(Tl.AA t22 F134 (AO [(⟨0,2,7⟩:Ag)])),(AX w24 c18 t22),(AQ w24),(AP w24 n9),(Ai w34),(Ah w34),(Aj w75),(Aw w75),(Ap w75),(Ak w75 nm),(Aq w75),(Ar w75 nm),(Au w75 nm),(Az w75),(Be w75),(Bd w75),(AC w75 nm),(AV w75),(Ba w75),(BR w75 w24 n9),(AY w135),(Bf w142),(Bq w142),(Bh w142),(Bg w142 nm),(Bi w142),(Bj w142 nm),(Bl w142 nm),(Bv w142),(BM w142),(bk (w142.heap.size+9) #[.func (.func 39) #[] #[],.func (.func 39) #[] #[],.func (.func 39) #[] #[],.func (.func 39) #[] #[],.func (.func 39) #[] #[],.func (.func 39) #[] #[],.func (.func 39) #[] #[],.func (.func 39) #[] #[],.func (.func 39) #[] #[],.nilFunc,.nilFunc,.nilFunc,.nilFunc,.nilFunc,.nilFunc,.nilFunc,.nilFunc,.nilFunc,.nilFunc,.nilFunc,.nilFunc,.nilFunc,.nilFunc,.nilFunc,.nilFunc,.nilFunc,.nilFunc,.nilFunc,.nilFunc,.nilFunc,.nilFunc] 82)]⟩ rfl ⟨rfl,(by omega),rfl,rfl,Aa⟩ ?_
 refine AB ?_
 refine q_c 20 0 [1] [[o0],[o0,o0],[o0,(oi 9),(a1 35)],[o0,o0]] [(9:Int)=((9:Nat):Int),9<31,AU,Qb (w142.heap.size+9)] [(BK w142),(BP w142),(4,i6 10)] ⟨w,w142.heap.size+10,[(A8 w),(Ad z),(Ac z b11 cp8),(Ae n9 b11 cp8),(Ca.Am c18 F141 (Ca.put (Ca.put (fun _=>[]) (((32:Int) / 4 % 4).toNat) (Ca.touch ((fun _=>[]) (((32:Int) / 4 % 4).toNat)) ((32:Int) / 4))) (((33:Int) / 4 % 4).toNat) (Ca.touch ((Ca.put (fun _=>[]) (((32:Int) / 4 % 4).toNat) (Ca.touch ((fun _=>[]) (((32:Int) / 4 % 4).toNat)) ((32:Int) / 4))) (((33:Int) / 4 % 4).toNat)) ((33:Int) / 4)))),(Tl.AA t22 F134 (AO [(⟨0,2,7⟩:Ag)])),(AX w24 c18 t22),(AQ w24),(AP w24 n9),(Ai w34),(Ah w34),(Aj w75),(Aw w75),(Ap w75),(Ak w75 nm),(Aq w75),(Ar w75 nm),(Au w75 nm),(Az w75),(Be w75),(Bd w75),(AC w75 nm),(AV w75),(Ba w75),(BR w75 w24 n9),(AY w135),(Bf w142),(Bq w142),(Bh w142),(Bg w142 nm),(Bi w142),(Bj w142 nm),(Bl w142 nm),(Bv w142),(BM w142),(bk (w142.heap.size+9) #[.func (.func 39) #[] #[],.func (.func 39) #[] #[],.func (.func 39) #[] #[],.func (.func 39) #[] #[],.func (.func 39) #[] #[],.func (.func 39) #[] #[],.func (.func 39) #[] #[],.func (.func 39) #[] #[],.func (.func 39) #[] #[],.func (.func 39) #[] #[],.nilFunc,.nilFunc,.nilFunc,.nilFunc,.nilFunc,.nilFunc,.nilFunc,.nilFunc,.nilFunc,.nilFunc,.nilFunc,.nilFunc,.nilFunc,.nilFunc,.nilFunc,.nilFunc,.nilFunc,.nilFunc,.nilFunc,.nilFunc,.nilFunc] 82)]⟩ rfl ⟨rfl,(by omega),rfl,rfl,Aa⟩ ?_
 refine AB ?_
 refine q_c 20 0 [1] [[o0],[o0,o0],[o0,(oi 10),(a1 35)],[o0,o0]] [(10:Int)=((10:Nat):Int),10<31,AU,Qb (w142.heap.size+9)] [(BK w142),(BP w142),(4,i6 11)] ⟨w,w142.heap.size+10,[(A8 w),(Ad z),(Ac z b11 cp8),(Ae n9 b11 cp8),(Ca.Am c18 F141 (Ca.put (Ca.put (fun _=>[]) (((32:Int) / 4 % 4).toNat) (Ca.touch ((fun _=>[]) (((32:Int) / 4 % 4).toNat)) ((32:Int) / 4))) (((33:Int) / 4 % 4).toNat) (Ca.touch ((Ca.put (fun _=>[]) (((32:Int) / 4 % 4).toNat) (Ca.touch ((fun _=>[]) (((32:Int) / 4 % 4).toNat)) ((32:Int) / 4))) (((33:Int) / 4 % 4).toNat)) ((33:Int) / 4)))),(Tl.AA t22 F134 (AO [(⟨0,2,7⟩:Ag)])),(AX w24 c18 t22),(AQ w24),(AP w24 n9),(Ai w34),(Ah w34),(Aj w75),(Aw w75),(Ap w75),(Ak w75 nm),(Aq w75),(Ar w75 nm),(Au w75 nm),(Az w75),(Be w75),(Bd w75),(AC w75 nm),(AV w75),(Ba w75),(BR w75 w24 n9),(AY w135),(Bf w142),(Bq w142),(Bh w142),(Bg w142 nm),(Bi w142),(Bj w142 nm),(Bl w142 nm),(Bv w142),(BM w142),(bk (w142.heap.size+9) #[.func (.func 39) #[] #[],.func (.func 39) #[] #[],.func (.func 39) #[] #[],.func (.func 39) #[] #[],.func (.func 39) #[] #[],.func (.func 39) #[] #[],.func (.func 39) #[] #[],.func (.func 39) #[] #[],.func (.func 39) #[] #[],.func (.func 39) #[] #[],.func (.func 39) #[] #[],.nilFunc,.nilFunc,.nilFunc,.nilFunc,.nilFunc,.nilFunc,.nilFunc,.nilFunc,.nilFunc,.nilFunc,.nilFunc,.nilFunc,.nilFunc,.nilFunc,.nilFunc,.nilFunc,.nilFunc,.nilFunc,.nilFunc,.nilFunc] 82)]⟩ rfl ⟨rfl,(by omega),rfl,rfl,Aa⟩ ?_
 refine AB ?_
 refine q_c 20 0 [1] [[o0],[o0,o0],[o0,(oi 11),(a1 35)],[o0,o0]] [(11:Int)=((11:Nat):Int),11<31,AU,Qb (w142.heap.size+9)] [(BK w142),(BP w142),(4,i6 12)] ⟨w,w142.heap.size+10,[(A8 w),(Ad z),(Ac z b11 cp8),(Ae n9 b11 cp8),(Ca.Am c18 F141 (Ca.put (Ca.put (fun _=>[]) (((32:Int) / 4 % 4).toNat) (Ca.touch ((fun _=>[]) (((32:Int) / 4 % 4).toNat)) ((32:Int) / 4))) (((33:Int) / 4 % 4).toNat) (Ca.touch ((Ca.put (fun _=>[]) (((32:Int) / 4 % 4).toNat) (Ca.touch ((fun _=>[]) (((32:Int) / 4 % 4).toNat)) ((32:Int) / 4))) (((33:Int) / 4 % 4).toNat)) ((33:Int) / 4)))),(Tl.AA t22 F134 (AO [(⟨0,2,7⟩:Ag)])),(AX w24 c18 t22),(AQ w24),(AP w24 n9),(Ai w34),(Ah w34),(Aj w75),(Aw w75),(Ap w75),(Ak w75 nm),(Aq w75),(Ar w75 nm),(Au w75 nm),(Az w75),(Be w75),(Bd w75),(AC w75 nm),(AV w75),(Ba w75),(BR w75 w24 n9),(AY w135),(Bf w142),(Bq w142),(Bh w142),(Bg w142 nm),(Bi w142),(Bj w142 nm),(Bl w142 nm),(Bv w142),(BM w142),(bk (w142.heap.size+9) #[.func (.func 39) #[] #[],.func (.func 39) #[] #[],.func (.func 39) #[] #[],.func (.func 39) #[] #[],.func (.func 39) #[] #[],.func (.func 39) #[] #[],.func (.func 39) #[] #[],.func (.func 39) #[] #[],.func (.func 39) #[] #[],.func (.func 39) #[] #[],.func (.func 39) #[] #[],.func (.func 39) #[] #[],.nilFunc,.nilFunc,.nilFunc,.nilFunc,.nilFunc,.nilFunc,.nilFunc,.nilFunc,.nilFunc,.nilFunc,.nilFunc,.nilFunc,.nilFunc,.nilFunc,.nilFunc,.nilFunc,.nilFunc,.nilFunc,.nilFunc] 82)]⟩ rfl ⟨rfl,(by omega),rfl,rfl,Aa⟩ ?_
 refine AB ?_
 refine q_c 20 0 [1] [[o0],[o0,o0],[o0,(oi 12),(a1 35)],[o0,o0]] [(12:Int)=((12:Nat):Int),12<31,AU,Qb (w142.heap.size+9)] [(BK w142),(BP w142),(4,i6 13)] ⟨w,w142.heap.size+10,[(A8 w),(Ad z),(Ac z b11 cp8),(Ae n9 b11 cp8),(Ca.Am c18 F141 (Ca.put (Ca.put (fun _=>[]) (((32:Int) / 4 % 4).toNat) (Ca.touch ((fun _=>[]) (((32:Int) / 4 % 4).toNat)) ((32:Int) / 4))) (((33:Int) / 4 % 4).toNat) (Ca.touch ((Ca.put (fun _=>[]) (((32:Int) / 4 % 4).toNat) (Ca.touch ((fun _=>[]) (((32:Int) / 4 % 4).toNat)) ((32:Int) / 4))) (((33:Int) / 4 % 4).toNat)) ((33:Int) / 4)))),(Tl.AA t22 F134 (AO [(⟨0,2,7⟩:Ag)])),(AX w24 c18 t22),(AQ w24),(AP w24 n9),(Ai w34),(Ah w34),(Aj w75),(Aw w75),(Ap w75),(Ak w75 nm),(Aq w75),(Ar w75 nm),(Au w75 nm),(Az w75),(Be w75),(Bd w75),(AC w75 nm),(AV w75),(Ba w75),(BR w75 w24 n9),(AY w135),(Bf w142),(Bq w142),(Bh w142),(Bg w142 nm),(Bi w142),(Bj w142 nm),(Bl w142 nm),(Bv w142),(BM w142),(bk (w142.heap.size+9) #[.func (.func 39) #[] #[],.func (.func 39) #[] #[],.func (.func 39) #[] #[],.func (.func 39) #[] #[],.func (.func 39) #[] #[],.func (.func 39) #[] #[],.func (.func 39) #[] #[],.func (.func 39) #[] #[],.func (.func 39) #[] #[],.func (.func 39) #[] #[],.func (.func 39) #[] #[],.func (.func 39) #[] #[],.func (.func 39) #[] #[],.nilFunc,.nilFunc,.nilFunc,.nilFunc,.nilFunc,.nilFunc,.nilFunc,.nilFunc,.nilFunc,.nilFunc,.nilFunc,.nilFunc,.nilFunc,.nilFunc,.nilFunc,.nilFunc,.nilFunc,.nilFunc] 82)]⟩ rfl ⟨rfl,(by omega),rfl,rfl,Aa⟩ ?_
 refine AB ?_
 refine q_c 20 0 [1] [[o0],[o0,o0],[o0,(oi 13),(a1 35)],[o0,o0]] [(13:Int)=((13:Nat):Int),13<31,AU,Qb (w142.heap.size+9)] [(BK w142),(BP w142),(4,i6 14)] ⟨w,w142.heap.size+10,[(A8 w),(Ad z),(Ac z b11 cp8),(Ae n9 b11 cp8),(Ca.Am c18 F141 (Ca.put (Ca.put (fun _=>[]) (((32:Int) / 4 % 4).toNat) (Ca.touch ((fun _=>[]) (((32:Int) / 4 % 4).toNat)) ((32:Int) / 4))) (((33:Int) / 4 % 4).toNat) (Ca.touch ((Ca.put (fun _=>[]) (((32:Int) / 4 % 4).toNat) (Ca.touch ((fun _=>[]) (((32:Int) / 4 % 4).toNat)) ((32:Int) / 4))) (((33:Int) / 4 % 4).toNat)) ((33:Int) / 4)))),(Tl.AA t22 F134 (AO [(⟨0,2,7⟩:Ag)])),(AX w24 c18 t22),(AQ w24),(AP w24 n9),(Ai w34),(Ah w34),(Aj w75),(Aw w75),(Ap w75),(Ak w75 nm),(Aq w75),(Ar w75 nm),(Au w75 nm),(Az w75),(Be w75),(Bd w75),(AC w75 nm),(AV w75),(Ba w75),(BR w75 w24 n9),(AY w135),(Bf w142),(Bq w142),(Bh w142),(Bg w142 nm),(Bi w142),(Bj w142 nm),(Bl w142 nm),(Bv w142),(BM w142),(bk (w142.heap.size+9) #[.func (.func 39) #[] #[],.func (.func 39) #[] #[],.func (.func 39) #[] #[],.func (.func 39) #[] #[],.func (.func 39) #[] #[],.func (.func 39) #[] #[],.func (.func 39) #[] #[],.func (.func 39) #[] #[],.func (.func 39) #[] #[],.func (.func 39) #[] #[],.func (.func 39) #[] #[],.func (.func 39) #[] #[],.func (.func 39) #[] #[],.func (.func 39) #[] #[],.nilFunc,.nilFunc,.nilFunc,.nilFunc,.nilFunc,.nilFunc,.nilFunc,.nilFunc,.nilFunc,.nilFunc,.nilFunc,.nilFunc,.nilFunc,.nilFunc,.nilFunc,.nilFunc,.nilFunc] 82)]⟩ rfl ⟨rfl,(by omega),rfl,rfl,Aa⟩ ?_
 refine AB ?_
 refine q_c 20 0 [1] [[o0],[o0,o0],[o0,(oi 14),(a1 35)],[o0,o0]] [(14:Int)=((14:Nat):Int),14<31,AU,Qb (w142.heap.size+9)] [(BK w142),(BP w142),(4,i6 15)] ⟨w,w142.heap.size+10,[(A8 w),(Ad z),(Ac z b11 cp8),(Ae n9 b11 cp8),(Ca.Am c18 F141 (Ca.put (Ca.put (fun _=>[]) (((32:Int) / 4 % 4).toNat) (Ca.touch ((fun _=>[]) (((32:Int) / 4 % 4).toNat)) ((32:Int) / 4))) (((33:Int) / 4 % 4).toNat) (Ca.touch ((Ca.put (fun _=>[]) (((32:Int) / 4 % 4).toNat) (Ca.touch ((fun _=>[]) (((32:Int) / 4 % 4).toNat)) ((32:Int) / 4))) (((33:Int) / 4 % 4).toNat)) ((33:Int) / 4)))),(Tl.AA t22 F134 (AO [(⟨0,2,7⟩:Ag)])),(AX w24 c18 t22),(AQ w24),(AP w24 n9),(Ai w34),(Ah w34),(Aj w75),(Aw w75),(Ap w75),(Ak w75 nm),(Aq w75),(Ar w75 nm),(Au w75 nm),(Az w75),(Be w75),(Bd w75),(AC w75 nm),(AV w75),(Ba w75),(BR w75 w24 n9),(AY w135),(Bf w142),(Bq w142),(Bh w142),(Bg w142 nm),(Bi w142),(Bj w142 nm),(Bl w142 nm),(Bv w142),(BM w142),(bk (w142.heap.size+9) #[.func (.func 39) #[] #[],.func (.func 39) #[] #[],.func (.func 39) #[] #[],.func (.func 39) #[] #[],.func (.func 39) #[] #[],.func (.func 39) #[] #[],.func (.func 39) #[] #[],.func (.func 39) #[] #[],.func (.func 39) #[] #[],.func (.func 39) #[] #[],.func (.func 39) #[] #[],.func (.func 39) #[] #[],.func (.func 39) #[] #[],.func (.func 39) #[] #[],.func (.func 39) #[] #[],.nilFunc,.nilFunc,.nilFunc,.nilFunc,.nilFunc,.nilFunc,.nilFunc,.nilFunc,.nilFunc,.nilFunc,.nilFunc,.nilFunc,.nilFunc,.nilFunc,.nilFunc,.nilFunc] 82)]⟩ rfl ⟨rfl,(by omega),rfl,rfl,Aa⟩ ?_
 refine AB ?_
 refine q_c 20 0 [1] [[o0],[o0,o0],[o0,(oi 15),(a1 35)],[o0,o0]] [(15:Int)=((15:Nat):Int),15<31,AU,Qb (w142.heap.size+9)] [(BK w142),(BP w142),(4,i6 16)] ⟨w,w142.heap.size+10,[(A8 w),(Ad z),(Ac z b11 cp8),(Ae n9 b11 cp8),(Ca.Am c18 F141 (Ca.put (Ca.put (fun _=>[]) (((32:Int) / 4 % 4).toNat) (Ca.touch ((fun _=>[]) (((32:Int) / 4 % 4).toNat)) ((32:Int) / 4))) (((33:Int) / 4 % 4).toNat) (Ca.touch ((Ca.put (fun _=>[]) (((32:Int) / 4 % 4).toNat) (Ca.touch ((fun _=>[]) (((32:Int) / 4 % 4).toNat)) ((32:Int) / 4))) (((33:Int) / 4 % 4).toNat)) ((33:Int) / 4)))),(Tl.AA t22 F134 (AO [(⟨0,2,7⟩:Ag)])),(AX w24 c18 t22),(AQ w24),(AP w24 n9),(Ai w34),(Ah w34),(Aj w75),(Aw w75),(Ap w75),(Ak w75 nm),(Aq w75),(Ar w75 nm),(Au w75 nm),(Az w75),(Be w75),(Bd w75),(AC w75 nm),(AV w75),(Ba w75),(BR w75 w24 n9),(AY w135),(Bf w142),(Bq w142),(Bh w142),(Bg w142 nm),(Bi w142),(Bj w142 nm),(Bl w142 nm),(Bv w142),(BM w142),(bk (w142.heap.size+9) #[.func (.func 39) #[] #[],.func (.func 39) #[] #[],.func (.func 39) #[] #[],.func (.func 39) #[] #[],.func (.func 39) #[] #[],.func (.func 39) #[] #[],.func (.func 39) #[] #[],.func (.func 39) #[] #[],.func (.func 39) #[] #[],.func (.func 39) #[] #[],.func (.func 39) #[] #[],.func (.func 39) #[] #[],.func (.func 39) #[] #[],.func (.func 39) #[] #[],.func (.func 39) #[] #[],.func (.func 39) #[] #[],.nilFunc,.nilFunc,.nilFunc,.nilFunc,.nilFunc,.nilFunc,.nilFunc,.nilFunc,.nilFunc,.nilFunc,.nilFunc,.nilFunc,.nilFunc,.nilFunc,.nilFunc] 82)]⟩ rfl ⟨rfl,(by omega),rfl,rfl,Aa⟩ ?_
 refine AB ?_
 refine q_c 20 0 [1] [[o0],[o0,o0],[o0,(oi 16),(a1 35)],[o0,o0]] [(16:Int)=((16:Nat):Int),16<31,AU,Qb (w142.heap.size+9)] [(BK w142),(BP w142),(4,i6 17)] ⟨w,w142.heap.size+10,[(A8 w),(Ad z),(Ac z b11 cp8),(Ae n9 b11 cp8),(Ca.Am c18 F141 (Ca.put (Ca.put (fun _=>[]) (((32:Int) / 4 % 4).toNat) (Ca.touch ((fun _=>[]) (((32:Int) / 4 % 4).toNat)) ((32:Int) / 4))) (((33:Int) / 4 % 4).toNat) (Ca.touch ((Ca.put (fun _=>[]) (((32:Int) / 4 % 4).toNat) (Ca.touch ((fun _=>[]) (((32:Int) / 4 % 4).toNat)) ((32:Int) / 4))) (((33:Int) / 4 % 4).toNat)) ((33:Int) / 4)))),(Tl.AA t22 F134 (AO [(⟨0,2,7⟩:Ag)])),(AX w24 c18 t22),(AQ w24),(AP w24 n9),(Ai w34),(Ah w34),(Aj w75),(Aw w75),(Ap w75),(Ak w75 nm),(Aq w75),(Ar w75 nm),(Au w75 nm),(Az w75),(Be w75),(Bd w75),(AC w75 nm),(AV w75),(Ba w75),(BR w75 w24 n9),(AY w135),(Bf w142),(Bq w142),(Bh w142),(Bg w142 nm),(Bi w142),(Bj w142 nm),(Bl w142 nm),(Bv w142),(BM w142),(bk (w142.heap.size+9) #[.func (.func 39) #[] #[],.func (.func 39) #[] #[],.func (.func 39) #[] #[],.func (.func 39) #[] #[],.func (.func 39) #[] #[],.func (.func 39) #[] #[],.func (.func 39) #[] #[],.func (.func 39) #[] #[],.func (.func 39) #[] #[],.func (.func 39) #[] #[],.func (.func 39) #[] #[],.func (.func 39) #[] #[],.func (.func 39) #[] #[],.func (.func 39) #[] #[],.func (.func 39) #[] #[],.func (.func 39) #[] #[],.func (.func 39) #[] #[],.nilFunc,.nilFunc,.nilFunc,.nilFunc,.nilFunc,.nilFunc,.nilFunc,.nilFunc,.nilFunc,.nilFunc,.nilFunc,.nilFunc,.nilFunc,.nilFunc] 82)]⟩ rfl ⟨rfl,(by omega),rfl,rfl,Aa⟩ ?_
 refine AB ?_
 refine q_c 20 0 [1] [[o0],[o0,o0],[o0,(oi 17),(a1 35)],[o0,o0]] [(17:Int)=((17:Nat):Int),17<31,AU,Qb (w142.heap.size+9)] [(BK w142),(BP w142),(4,i6 18)] ⟨w,w142.heap.size+10,[(A8 w),(Ad z),(Ac z b11 cp8),(Ae n9 b11 cp8),(Ca.Am c18 F141 (Ca.put (Ca.put (fun _=>[]) (((32:Int) / 4 % 4).toNat) (Ca.touch ((fun _=>[]) (((32:Int) / 4 % 4).toNat)) ((32:Int) / 4))) (((33:Int) / 4 % 4).toNat) (Ca.touch ((Ca.put (fun _=>[]) (((32:Int) / 4 % 4).toNat) (Ca.touch ((fun _=>[]) (((32:Int) / 4 % 4).toNat)) ((32:Int) / 4))) (((33:Int) / 4 % 4).toNat)) ((33:Int) / 4)))),(Tl.AA t22 F134 (AO [(⟨0,2,7⟩:Ag)])),(AX w24 c18 t22),(AQ w24),(AP w24 n9),(Ai w34),(Ah w34),(Aj w75),(Aw w75),(Ap w75),(Ak w75 nm),(Aq w75),(Ar w75 nm),(Au w75 nm),(Az w75),(Be w75),(Bd w75),(AC w75 nm),(AV w75),(Ba w75),(BR w75 w24 n9),(AY w135),(Bf w142),(Bq w142),(Bh w142),(Bg w142 nm),(Bi w142),(Bj w142 nm),(Bl w142 nm),(Bv w142),(BM w142),(bk (w142.heap.size+9) #[.func (.func 39) #[] #[],.func (.func 39) #[] #[],.func (.func 39) #[] #[],.func (.func 39) #[] #[],.func (.func 39) #[] #[],.func (.func 39) #[] #[],.func (.func 39) #[] #[],.func (.func 39) #[] #[],.func (.func 39) #[] #[],.func (.func 39) #[] #[],.func (.func 39) #[] #[],.func (.func 39) #[] #[],.func (.func 39) #[] #[],.func (.func 39) #[] #[],.func (.func 39) #[] #[],.func (.func 39) #[] #[],.func (.func 39) #[] #[],.func (.func 39) #[] #[],.nilFunc,.nilFunc,.nilFunc,.nilFunc,.nilFunc,.nilFunc,.nilFunc,.nilFunc,.nilFunc,.nilFunc,.nilFunc,.nilFunc,.nilFunc] 82)]⟩ rfl ⟨rfl,(by omega),rfl,rfl,Aa⟩ ?_
 refine AB ?_
 refine q_c 20 0 [1] [[o0],[o0,o0],[o0,(oi 18),(a1 35)],[o0,o0]] [(18:Int)=((18:Nat):Int),18<31,AU,Qb (w142.heap.size+9)] [(BK w142),(BP w142),(4,i6 19)] ⟨w,w142.heap.size+10,[(A8 w),(Ad z),(Ac z b11 cp8),(Ae n9 b11 cp8),(Ca.Am c18 F141 (Ca.put (Ca.put (fun _=>[]) (((32:Int) / 4 % 4).toNat) (Ca.touch ((fun _=>[]) (((32:Int) / 4 % 4).toNat)) ((32:Int) / 4))) (((33:Int) / 4 % 4).toNat) (Ca.touch ((Ca.put (fun _=>[]) (((32:Int) / 4 % 4).toNat) (Ca.touch ((fun _=>[]) (((32:Int) / 4 % 4).toNat)) ((32:Int) / 4))) (((33:Int) / 4 % 4).toNat)) ((33:Int) / 4)))),(Tl.AA t22 F134 (AO [(⟨0,2,7⟩:Ag)])),(AX w24 c18 t22),(AQ w24),(AP w24 n9),(Ai w34),(Ah w34),(Aj w75),(Aw w75),(Ap w75),(Ak w75 nm),(Aq w75),(Ar w75 nm),(Au w75 nm),(Az w75),(Be w75),(Bd w75),(AC w75 nm),(AV w75),(Ba w75),(BR w75 w24 n9),(AY w135),(Bf w142),(Bq w142),(Bh w142),(Bg w142 nm),(Bi w142),(Bj w142 nm),(Bl w142 nm),(Bv w142),(BM w142),(bk (w142.heap.size+9) #[.func (.func 39) #[] #[],.func (.func 39) #[] #[],.func (.func 39) #[] #[],.func (.func 39) #[] #[],.func (.func 39) #[] #[],.func (.func 39) #[] #[],.func (.func 39) #[] #[],.func (.func 39) #[] #[],.func (.func 39) #[] #[],.func (.func 39) #[] #[],.func (.func 39) #[] #[],.func (.func 39) #[] #[],.func (.func 39) #[] #[],.func (.func 39) #[] #[],.func (.func 39) #[] #[],.func (.func 39) #[] #[],.func (.func 39) #[] #[],.func (.func 39) #[] #[],.func (.func 39) #[] #[],.nilFunc,.nilFunc,.nilFunc,.nilFunc,.nilFunc,.nilFunc,.nilFunc,.nilFunc,.nilFunc,.nilFunc,.nilFunc,.nilFunc] 82)]⟩ rfl ⟨rfl,(by omega),rfl,rfl,Aa⟩ ?_
 refine AB ?_
 refine q_c 20 0 [1] [[o0],[o0,o0],[o0,(oi 19),(a1 35)],[o0,o0]] [(19:Int)=((19:Nat):Int),19<31,AU,Qb (w142.heap.size+9)] [(BK w142),(BP w142),(4,i6 20)] ⟨w,w142.heap.size+10,[(A8 w),(Ad z),(Ac z b11 cp8),(Ae n9 b11 cp8),(Ca.Am c18 F141 (Ca.put (Ca.put (fun _=>[]) (((32:Int) / 4 % 4).toNat) (Ca.touch ((fun _=>[]) (((32:Int) / 4 % 4).toNat)) ((32:Int) / 4))) (((33:Int) / 4 % 4).toNat) (Ca.touch ((Ca.put (fun _=>[]) (((32:Int) / 4 % 4).toNat) (Ca.touch ((fun _=>[]) (((32:Int) / 4 % 4).toNat)) ((32:Int) / 4))) (((33:Int) / 4 % 4).toNat)) ((33:Int) / 4)))),(Tl.AA t22 F134 (AO [(⟨0,2,7⟩:Ag)])),(AX w24 c18 t22),(AQ w24),(AP w24 n9),(Ai w34),(Ah w34),(Aj w75),(Aw w75),(Ap w75),(Ak w75 nm),(Aq w75),(Ar w75 nm),(Au w75 nm),(Az w75),(Be w75),(Bd w75),(AC w75 nm),(AV w75),(Ba w75),(BR w75 w24 n9),(AY w135),(Bf w142),(Bq w142),(Bh w142),(Bg w142 nm),(Bi w142),(Bj w142 nm),(Bl w142 nm),(Bv w142),(BM w142),(bk (w142.heap.size+9) #[.func (.func 39) #[] #[],.func (.func 39) #[] #[],.func (.func 39) #[] #[],.func (.func 39) #[] #[],.func (.func 39) #[] #[],.func (.func 39) #[] #[],.func (.func 39) #[] #[],.func (.func 39) #[] #[],.func (.func 39) #[] #[],.func (.func 39) #[] #[],.func (.func 39) #[] #[],.func (.func 39) #[] #[],.func (.func 39) #[] #[],.func (.func 39) #[] #[],.func (.func 39) #[] #[],.func (.func 39) #[] #[],.func (.func 39) #[] #[],.func (.func 39) #[] #[],.func (.func 39) #[] #[],.func (.func 39) #[] #[],.nilFunc,.nilFunc,.nilFunc,.nilFunc,.nilFunc,.nilFunc,.nilFunc,.nilFunc,.nilFunc,.nilFunc,.nilFunc] 82)]⟩ rfl ⟨rfl,(by omega),rfl,rfl,Aa⟩ ?_
 refine AB ?_
 refine q_c 20 0 [1] [[o0],[o0,o0],[o0,(oi 20),(a1 35)],[o0,o0]] [(20:Int)=((20:Nat):Int),20<31,AU,Qb (w142.heap.size+9)] [(BK w142),(BP w142),(4,i6 21)] ⟨w,w142.heap.size+10,[(A8 w),(Ad z),(Ac z b11 cp8),(Ae n9 b11 cp8),(Ca.Am c18 F141 (Ca.put (Ca.put (fun _=>[]) (((32:Int) / 4 % 4).toNat) (Ca.touch ((fun _=>[]) (((32:Int) / 4 % 4).toNat)) ((32:Int) / 4))) (((33:Int) / 4 % 4).toNat) (Ca.touch ((Ca.put (fun _=>[]) (((32:Int) / 4 % 4).toNat) (Ca.touch ((fun _=>[]) (((32:Int) / 4 % 4).toNat)) ((32:Int) / 4))) (((33:Int) / 4 % 4).toNat)) ((33:Int) / 4)))),(Tl.AA t22 F134 (AO [(⟨0,2,7⟩:Ag)])),(AX w24 c18 t22),(AQ w24),(AP w24 n9),(Ai w34),(Ah w34),(Aj w75),(Aw w75),(Ap w75),(Ak w75 nm),(Aq w75),(Ar w75 nm),(Au w75 nm),(Az w75),(Be w75),(Bd w75),(AC w75 nm),(AV w75),(Ba w75),(BR w75 w24 n9),(AY w135),(Bf w142),(Bq w142),(Bh w142),(Bg w142 nm),(Bi w142),(Bj w142 nm),(Bl w142 nm),(Bv w142),(BM w142),(bk (w142.heap.size+9) #[.func (.func 39) #[] #[],.func (.func 39) #[] #[],.func (.func 39) #[] #[],.func (.func 39) #[] #[],.func (.func 39) #[] #[],.func (.func 39) #[] #[],.func (.func 39) #[] #[],.func (.func 39) #[] #[],.func (.func 39) #[] #[],.func (.func 39) #[] #[],.func (.func 39) #[] #[],.func (.func 39) #[] #[],.func (.func 39) #[] #[],.func (.func 39) #[] #[],.func (.func 39) #[] #[],.func (.func 39) #[] #[],.func (.func 39) #[] #[],.func (.func 39) #[] #[],.func (.func 39) #[] #[],.func (.func 39) #[] #[],.func (.func 39) #[] #[],.nilFunc,.nilFunc,.nilFunc,.nilFunc,.nilFunc,.nilFunc,.nilFunc,.nilFunc,.nilFunc,.nilFunc] 82)]⟩ rfl ⟨rfl,(by omega),rfl,rfl,Aa⟩ ?_
 refine AB ?_
 refine q_c 20 0 [1] [[o0],[o0,o0],[o0,(oi 21),(a1 35)],[o0,o0]] [(21:Int)=((21:Nat):Int),21<31,AU,Qb (w142.heap.size+9)] [(BK w142),(BP w142),(4,i6 22)] ⟨w,w142.heap.size+10,[(A8 w),(Ad z),(Ac z b11 cp8),(Ae n9 b11 cp8),(Ca.Am c18 F141 (Ca.put (Ca.put (fun _=>[]) (((32:Int) / 4 % 4).toNat) (Ca.touch ((fun _=>[]) (((32:Int) / 4 % 4).toNat)) ((32:Int) / 4))) (((33:Int) / 4 % 4).toNat) (Ca.touch ((Ca.put (fun _=>[]) (((32:Int) / 4 % 4).toNat) (Ca.touch ((fun _=>[]) (((32:Int) / 4 % 4).toNat)) ((32:Int) / 4))) (((33:Int) / 4 % 4).toNat)) ((33:Int) / 4)))),(Tl.AA t22 F134 (AO [(⟨0,2,7⟩:Ag)])),(AX w24 c18 t22),(AQ w24),(AP w24 n9),(Ai w34),(Ah w34),(Aj w75),(Aw w75),(Ap w75),(Ak w75 nm),(Aq w75),(Ar w75 nm),(Au w75 nm),(Az w75),(Be w75),(Bd w75),(AC w75 nm),(AV w75),(Ba w75),(BR w75 w24 n9),(AY w135),(Bf w142),(Bq w142),(Bh w142),(Bg w142 nm),(Bi w142),(Bj w142 nm),(Bl w142 nm),(Bv w142),(BM w142),(bk (w142.heap.size+9) #[.func (.func 39) #[] #[],.func (.func 39) #[] #[],.func (.func 39) #[] #[],.func (.func 39) #[] #[],.func (.func 39) #[] #[],.func (.func 39) #[] #[],.func (.func 39) #[] #[],.func (.func 39) #[] #[],.func (.func 39) #[] #[],.func (.func 39) #[] #[],.func (.func 39) #[] #[],.func (.func 39) #[] #[],.func (.func 39) #[] #[],.func (.func 39) #[] #[],.func (.func 39) #[] #[],.func (.func 39) #[] #[],.func (.func 39) #[] #[],.func (.func 39) #[] #[],.func (.func 39) #[] #[],.func (.func 39) #[] #[],.func (.func 39) #[] #[],.func (.func 39) #[] #[],.nilFunc,.nilFunc,.nilFunc,.nilFunc,.nilFunc,.nilFunc,.nilFunc,.nilFunc,.nilFunc] 82)]⟩ rfl ⟨rfl,(by omega),rfl,rfl,Aa⟩ ?_
 refine AB ?_
 refine q_c 20 0 [1] [[o0],[o0,o0],[o0,(oi 22),(a1 35)],[o0,o0]] [(22:Int)=((22:Nat):Int),22<31,AU,Qb (w142.heap.size+9)] [(BK w142),(BP w142),(4,i6 23)] ⟨w,w142.heap.size+10,[(A8 w),(Ad z),(Ac z b11 cp8),(Ae n9 b11 cp8),(Ca.Am c18 F141 (Ca.put (Ca.put (fun _=>[]) (((32:Int) / 4 % 4).toNat) (Ca.touch ((fun _=>[]) (((32:Int) / 4 % 4).toNat)) ((32:Int) / 4))) (((33:Int) / 4 % 4).toNat) (Ca.touch ((Ca.put (fun _=>[]) (((32:Int) / 4 % 4).toNat) (Ca.touch ((fun _=>[]) (((32:Int) / 4 % 4).toNat)) ((32:Int) / 4))) (((33:Int) / 4 % 4).toNat)) ((33:Int) / 4)))),(Tl.AA t22 F134 (AO [(⟨0,2,7⟩:Ag)])),(AX w24 c18 t22),(AQ w24),(AP w24 n9),(Ai w34),(Ah w34),(Aj w75),(Aw w75),(Ap w75),(Ak w75 nm),(Aq w75),(Ar w75 nm),(Au w75 nm),(Az w75),(Be w75),(Bd w75),(AC w75 nm),(AV w75),(Ba w75),(BR w75 w24 n9),(AY w135),(Bf w142),(Bq w142),(Bh w142),(Bg w142 nm),(Bi w142),(Bj w142 nm),(Bl w142 nm),(Bv w142),(BM w142),(bk (w142.heap.size+9) #[.func (.func 39) #[] #[],.func (.func 39) #[] #[],.func (.func 39) #[] #[],.func (.func 39) #[] #[],.func (.func 39) #[] #[],.func (.func 39) #[] #[],.func (.func 39) #[] #[],.func (.func 39) #[] #[],.func (.func 39) #[] #[],.func (.func 39) #[] #[],.func (.func 39) #[] #[],.func (.func 39) #[] #[],.func (.func 39) #[] #[],.func (.func 39) #[] #[],.func (.func 39) #[] #[],.func (.func 39) #[] #[],.func (.func 39) #[] #[],.func (.func 39) #[] #[],.func (.func 39) #[] #[],.func (.func 39) #[] #[],.func (.func 39) #[] #[],.func (.func 39) #[] #[],.func (.func 39) #[] #[],.nilFunc,.nilFunc,.nilFunc,.nilFunc,.nilFunc,.nilFunc,.nilFunc,.nilFunc] 82)]⟩ rfl ⟨rfl,(by omega),rfl,rfl,Aa⟩ ?_
 refine AB ?_
 refine q_c 20 0 [1] [[o0],[o0,o0],[o0,(oi 23),(a1 35)],[o0,o0]] [(23:Int)=((23:Nat):Int),23<31,AU,Qb (w142.heap.size+9)] [(BK w142),(BP w142),(4,i6 24)] ⟨w,w142.heap.size+10,[(A8 w),(Ad z),(Ac z b11 cp8),(Ae n9 b11 cp8),(Ca.Am c18 F141 (Ca.put (Ca.put (fun _=>[]) (((32:Int) / 4 % 4).toNat) (Ca.touch ((fun _=>[]) (((32:Int) / 4 % 4).toNat)) ((32:Int) / 4))) (((33:Int) / 4 % 4).toNat) (Ca.touch ((Ca.put (fun _=>[]) (((32:Int) / 4 % 4).toNat) (Ca.touch ((fun _=>[]) (((32:Int) / 4 % 4).toNat)) ((32:Int) / 4))) (((33:Int) / 4 % 4).toNat)) ((33:Int) / 4)))),(Tl.AA t22 F134 (AO [(⟨0,2,7⟩:Ag)])),(AX w24 c18 t22),(AQ w24),(AP w24 n9),(Ai w34),(Ah w34),(Aj w75),(Aw w75),(Ap w75),(Ak w75 nm),(Aq w75),(Ar w75 nm),(Au w75 nm),(Az w75),(Be w75),(Bd w75),(AC w75 nm),(AV w75),(Ba w75),(BR w75 w24 n9),(AY w135),(Bf w142),(Bq w142),(Bh w142),(Bg w142 nm),(Bi w142),(Bj w142 nm),(Bl w142 nm),(Bv w142),(BM w142),(bk (w142.heap.size+9) #[.func (.func 39) #[] #[],.func (.func 39) #[] #[],.func (.func 39) #[] #[],.func (.func 39) #[] #[],.func (.func 39) #[] #[],.func (.func 39) #[] #[],.func (.func 39) #[] #[],.func (.func 39) #[] #[],.func (.func 39) #[] #[],.func (.func 39) #[] #[],.func (.func 39) #[] #[],.func (.func 39) #[] #[],.func (.func 39) #[] #[],.func (.func 39) #[] #[],.func (.func 39) #[] #[],.func (.func 39) #[] #[],.func (.func 39) #[] #[],.func (.func 39) #[] #[],.func (.func 39) #[] #[],.func (.func 39) #[] #[],.func (.func 39) #[] #[],.func (.func 39) #[] #[],.func (.func 39) #[] #[],.func (.func 39) #[] #[],.nilFunc,.nilFunc,.nilFunc,.nilFunc,.nilFunc,.nilFunc,.nilFunc] 82)]⟩ rfl ⟨rfl,(by omega),rfl,rfl,Aa⟩ ?_
 refine AB ?_
 refine q_c 20 0 [1] [[o0],[o0,o0],[o0,(oi 24),(a1 35)],[o0,o0]] [(24:Int)=((24:Nat):Int),24<31,AU,Qb (w142.heap.size+9)] [(BK w142),(BP w142),(4,i6 25)] ⟨w,w142.heap.size+10,[(A8 w),(Ad z),(Ac z b11 cp8),(Ae n9 b11 cp8),(Ca.Am c18 F141 (Ca.put (Ca.put (fun _=>[]) (((32:Int) / 4 % 4).toNat) (Ca.touch ((fun _=>[]) (((32:Int) / 4 % 4).toNat)) ((32:Int) / 4))) (((33:Int) / 4 % 4).toNat) (Ca.touch ((Ca.put (fun _=>[]) (((32:Int) / 4 % 4).toNat) (Ca.touch ((fun _=>[]) (((32:Int) / 4 % 4).toNat)) ((32:Int) / 4))) (((33:Int) / 4 % 4).toNat)) ((33:Int) / 4)))),(Tl.AA t22 F134 (AO [(⟨0,2,7⟩:Ag)])),(AX w24 c18 t22),(AQ w24),(AP w24 n9),(Ai w34),(Ah w34),(Aj w75),(Aw w75),(Ap w75),(Ak w75 nm),(Aq w75),(Ar w75 nm),(Au w75 nm),(Az w75),(Be w75),(Bd w75),(AC w75 nm),(AV w75),(Ba w75),(BR w75 w24 n9),(AY w135),(Bf w142),(Bq w142),(Bh w142),(Bg w142 nm),(Bi w142),(Bj w142 nm),(Bl w142 nm),(Bv w142),(BM w142),(bk (w142.heap.size+9) #[.func (.func 39) #[] #[],.func (.func 39) #[] #[],.func (.func 39) #[] #[],.func (.func 39) #[] #[],.func (.func 39) #[] #[],.func (.func 39) #[] #[],.func (.func 39) #[] #[],.func (.func 39) #[] #[],.func (.func 39) #[] #[],.func (.func 39) #[] #[],.func (.func 39) #[] #[],.func (.func 39) #[] #[],.func (.func 39) #[] #[],.func (.func 39) #[] #[],.func (.func 39) #[] #[],.func (.func 39) #[] #[],.func (.func 39) #[] #[],.func (.func 39) #[] #[],.func (.func 39) #[] #[],.func (.func 39) #[] #[],.func (.func 39) #[] #[],.func (.func 39) #[] #[],.func (.func 39) #[] #[],.func (.func 39) #[] #[],.func (.func 39) #[] #[],.nilFunc,.nilFunc,.nilFunc,.nilFunc,.nilFunc,.nilFunc] 82)]⟩ rfl ⟨rfl,(by omega),rfl,rfl,Aa⟩ ?_
 refine AB ?_
 refine q_c 20 0 [1] [[o0],[o0,o0],[o0,(oi 25),(a1 35)],[o0,o0]] [(25:Int)=((25:Nat):Int),25<31,AU,Qb (w142.heap.size+9)] [(BK w142),(BP w142),(4,i6 26)] ⟨w,w142.heap.size+10,[(A8 w),(Ad z),(Ac z b11 cp8),(Ae n9 b11 cp8),(Ca.Am c18 F141 (Ca.put (Ca.put (fun _=>[]) (((32:Int) / 4 % 4).toNat) (Ca.touch ((fun _=>[]) (((32:Int) / 4 % 4).toNat)) ((32:Int) / 4))) (((33:Int) / 4 % 4).toNat) (Ca.touch ((Ca.put (fun _=>[]) (((32:Int) / 4 % 4).toNat) (Ca.touch ((fun _=>[]) (((32:Int) / 4 % 4).toNat)) ((32:Int) / 4))) (((33:Int) / 4 % 4).toNat)) ((33:Int) / 4)))),(Tl.AA t22 F134 (AO [(⟨0,2,7⟩:Ag)])),(AX w24 c18 t22),(AQ w24),(AP w24 n9),(Ai w34),(Ah w34),(Aj w75),(Aw w75),(Ap w75),(Ak w75 nm),(Aq w75),(Ar w75 nm),(Au w75 nm),(Az w75),(Be w75),(Bd w75),(AC w75 nm),(AV w75),(Ba w75),(BR w75 w24 n9),(AY w135),(Bf w142),(Bq w142),(Bh w142),(Bg w142 nm),(Bi w142),(Bj w142 nm),(Bl w142 nm),(Bv w142),(BM w142),(bk (w142.heap.size+9) #[.func (.func 39) #[] #[],.func (.func 39) #[] #[],.func (.func 39) #[] #[],.func (.func 39) #[] #[],.func (.func 39) #[] #[],.func (.func 39) #[] #[],.func (.func 39) #[] #[],.func (.func 39) #[] #[],.func (.func 39) #[] #[],.func (.func 39) #[] #[],.func (.func 39) #[] #[],.func (.func 39) #[] #[],.func (.func 39) #[] #[],.func (.func 39) #[] #[],.func (.func 39) #[] #[],.func (.func 39) #[] #[],.func (.func 39) #[] #[],.func (.func 39) #[] #[],.func (.func 39) #[] #[],.func (.func 39) #[] #[],.func (.func 39) #[] #[],.func (.func 39) #[] #[],.func (.func 39) #[] #[],.func (.func 39) #[] #[],.func (.func 39) #[] #[],.func (.func 39) #[] #[],.nilFunc,.nilFunc,.nilFunc,.nilFunc,.nilFunc] 82)]⟩ rfl ⟨rfl,(by omega),rfl,rfl,Aa⟩ ?_
 refine AB ?_
 refine q_c 20 0 [1] [[o0],[o0,o0],[o0,(oi 26),(a1 35)],[o0,o0]] [(26:Int)=((26:Nat):Int),26<31,AU,Qb (w142.heap.size+9)] [(BK w142),(BP w142),(4,i6 27)] ⟨w,w142.heap.size+10,[(A8 w),(Ad z),(Ac z b11 cp8),(Ae n9 b11 cp8),(Ca.Am c18 F141 (Ca.put (Ca.put (fun _=>[]) (((32:Int) / 4 % 4).toNat) (Ca.touch ((fun _=>[]) (((32:Int) / 4 % 4).toNat)) ((32:Int) / 4))) (((33:Int) / 4 % 4).toNat) (Ca.touch ((Ca.put (fun _=>[]) (((32:Int) / 4 % 4).toNat) (Ca.touch ((fun _=>[]) (((32:Int) / 4 % 4).toNat)) ((32:Int) / 4))) (((33:Int) / 4 % 4).toNat)) ((33:Int) / 4)))),(Tl.AA t22 F134 (AO [(⟨0,2,7⟩:Ag)])),(AX w24 c18 t22),(AQ w24),(AP w24 n9),(Ai w34),(Ah w34),(Aj w75),(Aw w75),(Ap w75),(Ak w75 nm),(Aq w75),(Ar w75 nm),(Au w75 nm),(Az w75),(Be w75),(Bd w75),(AC w75 nm),(AV w75),(Ba w75),(BR w75 w24 n9),(AY w135),(Bf w142),(Bq w142),(Bh w142),(Bg w142 nm),(Bi w142),(Bj w142 nm),(Bl w142 nm),(Bv w142),(BM w142),(bk (w142.heap.size+9) #[.func (.func 39) #[] #[],.func (.func 39) #[] #[],.func (.func 39) #[] #[],.func (.func 39) #[] #[],.func (.func 39) #[] #[],.func (.func 39) #[] #[],.func (.func 39) #[] #[],.func (.func 39) #[] #[],.func (.func 39) #[] #[],.func (.func 39) #[] #[],.func (.func 39) #[] #[],.func (.func 39) #[] #[],.func (.func 39) #[] #[],.func (.func 39) #[] #[],.func (.func 39) #[] #[],.func (.func 39) #[] #[],.func (.func 39) #[] #[],.func (.func 39) #[] #[],.func (.func 39) #[] #[],.func (.func 39) #[] #[],.func (.func 39) #[] #[],.func (.func 39) #[] #[],.func (.func 39) #[] #[],.func (.func 39) #[] #[],.func (.func 39) #[] #[],.func (.func 39) #[] #[],.func (.func 39) #[] #[],.nilFunc,.nilFunc,.nilFunc,.nilFunc] 82)]⟩ rfl ⟨rfl,(by omega),rfl,rfl,Aa⟩ ?_
 refine AB ?_
 refine q_c 20 0 [1] [[o0],[o0,o0],[o0,(oi 27),(a1 35)],[o0,o0]] [(27:Int)=((27:Nat):Int),27<31,AU,Qb (w142.heap.size+9)] [(BK w142),(BP w142),(4,i6 28)] ⟨w,w142.heap.size+10,[(A8 w),(Ad z),(Ac z b11 cp8),(Ae n9 b11 cp8),(Ca.Am c18 F141 (Ca.put (Ca.put (fun _=>[]) (((32:Int) / 4 % 4).toNat) (Ca.touch ((fun _=>[]) (((32:Int) / 4 % 4).toNat)) ((32:Int) / 4))) (((33:Int) / 4 % 4).toNat) (Ca.touch ((Ca.put (fun _=>[]) (((32:Int) / 4 % 4).toNat) (Ca.touch ((fun _=>[]) (((32:Int) / 4 % 4).toNat)) ((32:Int) / 4))) (((33:Int) / 4 % 4).toNat)) ((33:Int) / 4)))),(Tl.AA t22 F134 (AO [(⟨0,2,7⟩:Ag)])),(AX w24 c18 t22),(AQ w24),(AP w24 n9),(Ai w34),(Ah w34),(Aj w75),(Aw w75),(Ap w75),(Ak w75 nm),(Aq w75),(Ar w75 nm),(Au w75 nm),(Az w75),(Be w75),(Bd w75),(AC w75 nm),(AV w75),(Ba w75),(BR w75 w24 n9),(AY w135),(Bf w142),(Bq w142),(Bh w142),(Bg w142 nm),(Bi w142),(Bj w142 nm),(Bl w142 nm),(Bv w142),(BM w142),(bk (w142.heap.size+9) #[.func (.func 39) #[] #[],.func (.func 39) #[] #[],.func (.func 39) #[] #[],.func (.func 39) #[] #[],.func (.func 39) #[] #[],.func (.func 39) #[] #[],.func (.func 39) #[] #[],.func (.func 39) #[] #[],.func (.func 39) #[] #[],.func (.func 39) #[] #[],.func (.func 39) #[] #[],.func (.func 39) #[] #[],.func (.func 39) #[] #[],.func (.func 39) #[] #[],.func (.func 39) #[] #[],.func (.func 39) #[] #[],.func (.func 39) #[] #[],.func (.func 39) #[] #[],.func (.func 39) #[] #[],.func (.func 39) #[] #[],.func (.func 39) #[] #[],.func (.func 39) #[] #[],.func (.func 39) #[] #[],.func (.func 39) #[] #[],.func (.func 39) #[] #[],.func (.func 39) #[] #[],.func (.func 39) #[] #[],.func (.func 39) #[] #[],.nilFunc,.nilFunc,.nilFunc] 82)]⟩ rfl ⟨rfl,(by omega),rfl,rfl,Aa⟩ ?_
 refine AB ?_
 refine q_c 20 0 [1] [[o0],[o0,o0],[o0,(oi 28),(a1 35)],[o0,o0]] [(28:Int)=((28:Nat):Int),28<31,AU,Qb (w142.heap.size+9)] [(BK w142),(BP w142),(4,i6 29)] ⟨w,w142.heap.size+10,[(A8 w),(Ad z),(Ac z b11 cp8),(Ae n9 b11 cp8),(Ca.Am c18 F141 (Ca.put (Ca.put (fun _=>[]) (((32:Int) / 4 % 4).toNat) (Ca.touch ((fun _=>[]) (((32:Int) / 4 % 4).toNat)) ((32:Int) / 4))) (((33:Int) / 4 % 4).toNat) (Ca.touch ((Ca.put (fun _=>[]) (((32:Int) / 4 % 4).toNat) (Ca.touch ((fun _=>[]) (((32:Int) / 4 % 4).toNat)) ((32:Int) / 4))) (((33:Int) / 4 % 4).toNat)) ((33:Int) / 4)))),(Tl.AA t22 F134 (AO [(⟨0,2,7⟩:Ag)])),(AX w24 c18 t22),(AQ w24),(AP w24 n9),(Ai w34),(Ah w34),(Aj w75),(Aw w75),(Ap w75),(Ak w75 nm),(Aq w75),(Ar w75 nm),(Au w75 nm),(Az w75),(Be w75),(Bd w75),(AC w75 nm),(AV w75),(Ba w75),(BR w75 w24 n9),(AY w135),(Bf w142),(Bq w142),(Bh w142),(Bg w142 nm),(Bi w142),(Bj w142 nm),(Bl w142 nm),(Bv w142),(BM w142),(bk (w142.heap.size+9) #[.func (.func 39) #[] #[],.func (.func 39) #[] #[],.func (.func 39) #[] #[],.func (.func 39) #[] #[],.func (.func 39) #[] #[],.func (.func 39) #[] #[],.func (.func 39) #[] #[],.func (.func 39) #[] #[],.func (.func 39) #[] #[],.func (.func 39) #[] #[],.func (.func 39) #[] #[],.func (.func 39) #[] #[],.func (.func 39) #[] #[],.func (.func 39) #[] #[],.func (.func 39) #[] #[],.func (.func 39) #[] #[],.func (.func 39) #[] #[],.func (.func 39) #[] #[],.func (.func 39) #[] #[],.func (.func 39) #[] #[],.func (.func 39) #[] #[],.func (.func 39) #[] #[],.func (.func 39) #[] #[],.func (.func 39) #[] #[],.func (.func 39) #[] #[],.func (.func 39) #[] #[],.func (.func 39) #[] #[],.func (.func 39) #[] #[],.func (.func 39) #[] #[],.nilFunc,.nilFunc] 82)]⟩ rfl ⟨rfl,(by omega),rfl,rfl,Aa⟩ ?_
 refine AB ?_
 refine q_c 20 0 [1] [[o0],[o0,o0],[o0,(oi 29),(a1 35)],[o0,o0]] [(29:Int)=((29:Nat):Int),29<31,AU,Qb (w142.heap.size+9)] [(BK w142),(BP w142),(4,i6 30)] ⟨w,w142.heap.size+10,[(A8 w),(Ad z),(Ac z b11 cp8),(Ae n9 b11 cp8),(Ca.Am c18 F141 (Ca.put (Ca.put (fun _=>[]) (((32:Int) / 4 % 4).toNat) (Ca.touch ((fun _=>[]) (((32:Int) / 4 % 4).toNat)) ((32:Int) / 4))) (((33:Int) / 4 % 4).toNat) (Ca.touch ((Ca.put (fun _=>[]) (((32:Int) / 4 % 4).toNat) (Ca.touch ((fun _=>[]) (((32:Int) / 4 % 4).toNat)) ((32:Int) / 4))) (((33:Int) / 4 % 4).toNat)) ((33:Int) / 4)))),(Tl.AA t22 F134 (AO [(⟨0,2,7⟩:Ag)])),(AX w24 c18 t22),(AQ w24),(AP w24 n9),(Ai w34),(Ah w34),(Aj w75),(Aw w75),(Ap w75),(Ak w75 nm),(Aq w75),(Ar w75 nm),(Au w75 nm),(Az w75),(Be w75),(Bd w75),(AC w75 nm),(AV w75),(Ba w75),(BR w75 w24 n9),(AY w135),(Bf w142),(Bq w142),(Bh w142),(Bg w142 nm),(Bi w142),(Bj w142 nm),(Bl w142 nm),(Bv w142),(BM w142),(bk (w142.heap.size+9) #[.func (.func 39) #[] #[],.func (.func 39) #[] #[],.func (.func 39) #[] #[],.func (.func 39) #[] #[],.func (.func 39) #[] #[],.func (.func 39) #[] #[],.func (.func 39) #[] #[],.func (.func 39) #[] #[],.func (.func 39) #[] #[],.func (.func 39) #[] #[],.func (.func 39) #[] #[],.func (.func 39) #[] #[],.func (.func 39) #[] #[],.func (.func 39) #[] #[],.func (.func 39) #[] #[],.func (.func 39) #[] #[],.func (.func 39) #[] #[],.func (.func 39) #[] #[],.func (.func 39) #[] #[],.func (.func 39) #[] #[],.func (.func 39) #[] #[],.func (.func 39) #[] #[],.func (.func 39) #[] #[],.func (.func 39) #[] #[],.func (.func 39) #[] #[],.func (.func 39) #[] #[],.func (.func 39) #[] #[],.func (.func 39) #[] #[],.func (.func 39) #[] #[],.func (.func 39) #[] #[],.nilFunc] 82)]⟩ rfl ⟨rfl,(by omega),rfl,rfl,Aa⟩ ?_
 refine AB ?_
 refine q_c 20 0 [1] [[o0],[o0,o0],[o0,(oi 30),(a1 35)],[o0,o0]] [(30:Int)=((30:Nat):Int),30<31,AU,Qb (w142.heap.size+9)] [(BK w142),(BP w142),(4,i6 31)] ⟨w,w142.heap.size+10,[(A8 w),(Ad z),(Ac z b11 cp8),(Ae n9 b11 cp8),(Ca.Am c18 F141 (Ca.put (Ca.put (fun _=>[]) (((32:Int) / 4 % 4).toNat) (Ca.touch ((fun _=>[]) (((32:Int) / 4 % 4).toNat)) ((32:Int) / 4))) (((33:Int) / 4 % 4).toNat) (Ca.touch ((Ca.put (fun _=>[]) (((32:Int) / 4 % 4).toNat) (Ca.touch ((fun _=>[]) (((32:Int) / 4 % 4).toNat)) ((32:Int) / 4))) (((33:Int) / 4 % 4).toNat)) ((33:Int) / 4)))),(Tl.AA t22 F134 (AO [(⟨0,2,7⟩:Ag)])),(AX w24 c18 t22),(AQ w24),(AP w24 n9),(Ai w34),(Ah w34),(Aj w75),(Aw w75),(Ap w75),(Ak w75 nm),(Aq w75),(Ar w75 nm),(Au w75 nm),(Az w75),(Be w75),(Bd w75),(AC w75 nm),(AV w75),(Ba w75),(BR w75 w24 n9),(AY w135),(Bf w142),(Bq w142),(Bh w142),(Bg w142 nm),(Bi w142),(Bj w142 nm),(Bl w142 nm),(Bv w142),(BM w142),(bk (w142.heap.size+9) #[.func (.func 39) #[] #[],.func (.func 39) #[] #[],.func (.func 39) #[] #[],.func (.func 39) #[] #[],.func (.func 39) #[] #[],.func (.func 39) #[] #[],.func (.func 39) #[] #[],.func (.func 39) #[] #[],.func (.func 39) #[] #[],.func (.func 39) #[] #[],.func (.func 39) #[] #[],.func (.func 39) #[] #[],.func (.func 39) #[] #[],.func (.func 39) #[] #[],.func (.func 39) #[] #[],.func (.func 39) #[] #[],.func (.func 39) #[] #[],.func (.func 39) #[] #[],.func (.func 39) #[] #[],.func (.func 39) #[] #[],.func (.func 39) #[] #[],.func (.func 39) #[] #[],.func (.func 39) #[] #[],.func (.func 39) #[] #[],.func (.func 39) #[] #[],.func (.func 39) #[] #[],.func (.func 39) #[] #[],.func (.func 39) #[] #[],.func (.func 39) #[] #[],.func (.func 39) #[] #[],.func (.func 39) #[] #[]] 82)]⟩ rfl ⟨rfl,(by omega),rfl,rfl,Aa⟩ ?_
 refine AB ?_
 refine q_c 33 0 [0] [[o0],[(oi 1),(a1 35)],[(oi 2),(a1 35),(oi 3),(a1 35),(oi 4),(a1 35)],[(oi 18),(a1 35)],[(oi 19),(a1 35),(oi 20),(a1 35)],[o0]] [(1:Int)=((1:Nat):Int),1<31,AU,Qb (w142.heap.size+9),(2:Int)=((2:Nat):Int),2<31,AU,Qb (w142.heap.size+9),(3:Int)=((3:Nat):Int),3<31,AU,Qb (w142.heap.size+9),(4:Int)=((4:Nat):Int),4<31,AU,Qb (w142.heap.size+9),(18:Int)=((18:Nat):Int),18<31,AU,Qb (w142.heap.size+9),(19:Int)=((19:Nat):Int),19<31,AU,Qb (w142.heap.size+9),(20:Int)=((20:Nat):Int),20<31,AU,Qb (w142.heap.size+9)] [(BK w142),(BP w142),(3,i6 21)] ⟨w,w142.heap.size+10,[(A8 w),(Ad z),(Ac z b11 cp8),(Ae n9 b11 cp8),(Ca.Am c18 F141 (Ca.put (Ca.put (fun _=>[]) (((32:Int) / 4 % 4).toNat) (Ca.touch ((fun _=>[]) (((32:Int) / 4 % 4).toNat)) ((32:Int) / 4))) (((33:Int) / 4 % 4).toNat) (Ca.touch ((Ca.put (fun _=>[]) (((32:Int) / 4 % 4).toNat) (Ca.touch ((fun _=>[]) (((32:Int) / 4 % 4).toNat)) ((32:Int) / 4))) (((33:Int) / 4 % 4).toNat)) ((33:Int) / 4)))),(Tl.AA t22 F134 (AO [(⟨0,2,7⟩:Ag)])),(AX w24 c18 t22),(AQ w24),(AP w24 n9),(Ai w34),(Ah w34),(Aj w75),(Aw w75),(Ap w75),(Ak w75 nm),(Aq w75),(Ar w75 nm),(Au w75 nm),(Az w75),(Be w75),(Bd w75),(AC w75 nm),(AV w75),(Ba w75),(BR w75 w24 n9),(AY w135),(Bf w142),(Bq w142),(Bh w142),(Bg w142 nm),(Bi w142),(Bj w142 nm),(Bl w142 nm),(Bv w142),(BM w142),(bk (w142.heap.size+9) #[.func (.func 39) #[] #[],.func (.func 40) #[] #[],.func (.func 41) #[] #[],.func (.func 42) #[] #[],.func (.func 43) #[] #[],.func (.func 39) #[] #[],.func (.func 39) #[] #[],.func (.func 39) #[] #[],.func (.func 39) #[] #[],.func (.func 39) #[] #[],.func (.func 39) #[] #[],.func (.func 39) #[] #[],.func (.func 39) #[] #[],.func (.func 39) #[] #[],.func (.func 39) #[] #[],.func (.func 39) #[] #[],.func (.func 39) #[] #[],.func (.func 39) #[] #[],.func (.func 44) #[] #[],.func (.func 45) #[] #[],.func (.func 46) #[] #[],.func (.func 39) #[] #[],.func (.func 39) #[] #[],.func (.func 39) #[] #[],.func (.func 39) #[] #[],.func (.func 39) #[] #[],.func (.func 39) #[] #[],.func (.func 39) #[] #[],.func (.func 39) #[] #[],.func (.func 39) #[] #[],.func (.func 39) #[] #[]] 82)]⟩ rfl ⟨rfl,(by omega),rfl,rfl,rfl,(by omega),rfl,rfl,rfl,(by omega),rfl,rfl,rfl,(by omega),rfl,rfl,rfl,(by omega),rfl,rfl,rfl,(by omega),rfl,rfl,rfl,(by omega),rfl,rfl,Aa⟩ ?_
 refine FQ 40 ?_
 refine q_c 16 0 [1] [[o0,o0],[o0,(oi 21),(a1 35)],[o0,o0,o0]] [(21:Int)=((21:Nat):Int),21<31,AU,Qb (w142.heap.size+9)] [(BK w142),(BP w142),(3,i6 22)] ⟨w,w142.heap.size+10,[(A8 w),(Ad z),(Ac z b11 cp8),(Ae n9 b11 cp8),(Ca.Am c18 F141 (Ca.put (Ca.put (fun _=>[]) (((32:Int) / 4 % 4).toNat) (Ca.touch ((fun _=>[]) (((32:Int) / 4 % 4).toNat)) ((32:Int) / 4))) (((33:Int) / 4 % 4).toNat) (Ca.touch ((Ca.put (fun _=>[]) (((32:Int) / 4 % 4).toNat) (Ca.touch ((fun _=>[]) (((32:Int) / 4 % 4).toNat)) ((32:Int) / 4))) (((33:Int) / 4 % 4).toNat)) ((33:Int) / 4)))),(Tl.AA t22 F134 (AO [(⟨0,2,7⟩:Ag)])),(AX w24 c18 t22),(AQ w24),(AP w24 n9),(Ai w34),(Ah w34),(Aj w75),(Aw w75),(Ap w75),(Ak w75 nm),(Aq w75),(Ar w75 nm),(Au w75 nm),(Az w75),(Be w75),(Bd w75),(AC w75 nm),(AV w75),(Ba w75),(BR w75 w24 n9),(AY w135),(Bf w142),(Bq w142),(Bh w142),(Bg w142 nm),(Bi w142),(Bj w142 nm),(Bl w142 nm),(Bv w142),(BM w142),(bk (w142.heap.size+9) #[.func (.func 39) #[] #[],.func (.func 40) #[] #[],.func (.func 41) #[] #[],.func (.func 42) #[] #[],.func (.func 43) #[] #[],.func (.func 39) #[] #[],.func (.func 39) #[] #[],.func (.func 39) #[] #[],.func (.func 39) #[] #[],.func (.func 39) #[] #[],.func (.func 39) #[] #[],.func (.func 39) #[] #[],.func (.func 39) #[] #[],.func (.func 39) #[] #[],.func (.func 39) #[] #[],.func (.func 39) #[] #[],.func (.func 39) #[] #[],.func (.func 39) #[] #[],.func (.func 44) #[] #[],.func (.func 45) #[] #[],.func (.func 46) #[] #[],.func (.func 47) #[] #[],.func (.func 39) #[] #[],.func (.func 39) #[] #[],.func (.func 39) #[] #[],.func (.func 39) #[] #[],.func (.func 39) #[] #[],.func (.func 39) #[] #[],.func (.func 39) #[] #[],.func (.func 39) #[] #[],.func (.func 39) #[] #[]] 82)]⟩ rfl ⟨rfl,(by omega),rfl,rfl,Aa⟩ ?_
 refine AB ?_
 refine q_c 16 0 [1] [[o0,o0],[o0,(oi 22),(a1 35)],[o0,o0,o0]] [(22:Int)=((22:Nat):Int),22<31,AU,Qb (w142.heap.size+9)] [(BK w142),(BP w142),(3,i6 23)] ⟨w,w142.heap.size+10,[(A8 w),(Ad z),(Ac z b11 cp8),(Ae n9 b11 cp8),(Ca.Am c18 F141 (Ca.put (Ca.put (fun _=>[]) (((32:Int) / 4 % 4).toNat) (Ca.touch ((fun _=>[]) (((32:Int) / 4 % 4).toNat)) ((32:Int) / 4))) (((33:Int) / 4 % 4).toNat) (Ca.touch ((Ca.put (fun _=>[]) (((32:Int) / 4 % 4).toNat) (Ca.touch ((fun _=>[]) (((32:Int) / 4 % 4).toNat)) ((32:Int) / 4))) (((33:Int) / 4 % 4).toNat)) ((33:Int) / 4)))),(Tl.AA t22 F134 (AO [(⟨0,2,7⟩:Ag)])),(AX w24 c18 t22),(AQ w24),(AP w24 n9),(Ai w34),(Ah w34),(Aj w75),(Aw w75),(Ap w75),(Ak w75 nm),(Aq w75),(Ar w75 nm),(Au w75 nm),(Az w75),(Be w75),(Bd w75),(AC w75 nm),(AV w75),(Ba w75),(BR w75 w24 n9),(AY w135),(Bf w142),(Bq w142),(Bh w142),(Bg w142 nm),(Bi w142),(Bj w142 nm),(Bl w142 nm),(Bv w142),(BM w142),(bk (w142.heap.size+9) #[.func (.func 39) #[] #[],.func (.func 40) #[] #[],.func (.func 41) #[] #[],.func (.func 42) #[] #[],.func (.func 43) #[] #[],.func (.func 39) #[] #[],.func (.func 39) #[] #[],.func (.func 39) #[] #[],.func (.func 39) #[] #[],.func (.func 39) #[] #[],.func (.func 39) #[] #[],.func (.func 39) #[] #[],.func (.func 39) #[] #[],.func (.func 39) #[] #[],.func (.func 39) #[] #[],.func (.func 39) #[] #[],.func (.func 39) #[] #[],.func (.func 39) #[] #[],.func (.func 44) #[] #[],.func (.func 45) #[] #[],.func (.func 46) #[] #[],.func (.func 47) #[] #[],.func (.func 47) #[] #[],.func (.func 39) #[] #[],.func (.func 39) #[] #[],.func (.func 39) #[] #[],.func (.func 39) #[] #[],.func (.func 39) #[] #[],.func (.func 39) #[] #[],.func (.func 39) #[] #[],.func (.func 39) #[] #[]] 82)]⟩ rfl ⟨rfl,(by omega),rfl,rfl,Aa⟩ ?_
 refine AB ?_
 refine q_c 16 0 [1] [[o0,o0],[o0,(oi 23),(a1 35)],[o0,o0,o0]] [(23:Int)=((23:Nat):Int),23<31,AU,Qb (w142.heap.size+9)] [(BK w142),(BP w142),(3,i6 24)] ⟨w,w142.heap.size+10,[(A8 w),(Ad z),(Ac z b11 cp8),(Ae n9 b11 cp8),(Ca.Am c18 F141 (Ca.put (Ca.put (fun _=>[]) (((32:Int) / 4 % 4).toNat) (Ca.touch ((fun _=>[]) (((32:Int) / 4 % 4).toNat)) ((32:Int) / 4))) (((33:Int) / 4 % 4).toNat) (Ca.touch ((Ca.put (fun _=>[]) (((32:Int) / 4 % 4).toNat) (Ca.touch ((fun _=>[]) (((32:Int) / 4 % 4).toNat)) ((32:Int) / 4))) (((33:Int) / 4 % 4).toNat)) ((33:Int) / 4)))),(Tl.AA t22 F134 (AO [(⟨0,2,7⟩:Ag)])),(AX w24 c18 t22),(AQ w24),(AP w24 n9),(Ai w34),(Ah w34),(Aj w75),(Aw w75),(Ap w75),(Ak w75 nm),(Aq w75),(Ar w75 nm),(Au w75 nm),(Az w75),(Be w75),(Bd w75),(AC w75 nm),(AV w75),(Ba w75),(BR w75 w24 n9),(AY w135),(Bf w142),(Bq w142),(Bh w142),(Bg w142 nm),(Bi w142),(Bj w142 nm),(Bl w142 nm),(Bv w142),(BM w142),(bk (w142.heap.size+9) #[.func (.func 39) #[] #[],.func (.func 40) #[] #[],.func (.func 41) #[] #[],.func (.func 42) #[] #[],.func (.func 43) #[] #[],.func (.func 39) #[] #[],.func (.func 39) #[] #[],.func (.func 39) #[] #[],.func (.func 39) #[] #[],.func (.func 39) #[] #[],.func (.func 39) #[] #[],.func (.func 39) #[] #[],.func (.func 39) #[] #[],.func (.func 39) #[] #[],.func (.func 39) #[] #[],.func (.func 39) #[] #[],.func (.func 39) #[] #[],.func (.func 39) #[] #[],.func (.func 44) #[] #[],.func (.func 45) #[] #[],.func (.func 46) #[] #[],.func (.func 47) #[] #[],.func (.func 47) #[] #[],.func (.func 47) #[] #[],.func (.func 39) #[] #[],.func (.func 39) #[] #[],.func (.func 39) #[] #[],.func (.func 39) #[] #[],.func (.func 39) #[] #[],.func (.func 39) #[] #[],.func (.func 39) #[] #[]] 82)]⟩ rfl ⟨rfl,(by omega),rfl,rfl,Aa⟩ ?_
 refine AB ?_
 refine q_c 16 0 [1] [[o0,o0],[o0,(oi 24),(a1 35)],[o0,o0,o0]] [(24:Int)=((24:Nat):Int),24<31,AU,Qb (w142.heap.size+9)] [(BK w142),(BP w142),(3,i6 25)] ⟨w,w142.heap.size+10,[(A8 w),(Ad z),(Ac z b11 cp8),(Ae n9 b11 cp8),(Ca.Am c18 F141 (Ca.put (Ca.put (fun _=>[]) (((32:Int) / 4 % 4).toNat) (Ca.touch ((fun _=>[]) (((32:Int) / 4 % 4).toNat)) ((32:Int) / 4))) (((33:Int) / 4 % 4).toNat) (Ca.touch ((Ca.put (fun _=>[]) (((32:Int) / 4 % 4).toNat) (Ca.touch ((fun _=>[]) (((32:Int) / 4 % 4).toNat)) ((32:Int) / 4))) (((33:Int) / 4 % 4).toNat)) ((33:Int) / 4)))),(Tl.AA t22 F134 (AO [(⟨0,2,7⟩:Ag)])),(AX w24 c18 t22),(AQ w24),(AP w24 n9),(Ai w34),(Ah w34),(Aj w75),(Aw w75),(Ap w75),(Ak w75 nm),(Aq w75),(Ar w75 nm),(Au w75 nm),(Az w75),(Be w75),(Bd w75),(AC w75 nm),(AV w75),(Ba w75),(BR w75 w24 n9),(AY w135),(Bf w142),(Bq w142),(Bh w142),(Bg w142 nm),(Bi w142),(Bj w142 nm),(Bl w142 nm),(Bv w142),(BM w142),(bk (w142.heap.size+9) #[.func (.func 39) #[] #[],.func (.func 40) #[] #[],.func (.func 41) #[] #[],.func (.func 42) #[] #[],.func (.func 43) #[] #[],.func (.func 39) #[] #[],.func (.func 39) #[] #[],.func (.func 39) #[] #[],.func (.func 39) #[] #[],.func (.func 39) #[] #[],.func (.func 39) #[] #[],.func (.func 39) #[] #[],.func (.func 39) #[] #[],.func (.func 39) #[] #[],.func (.func 39) #[] #[],.func (.func 39) #[] #[],.func (.func 39) #[] #[],.func (.func 39) #[] #[],.func (.func 44) #[] #[],.func (.func 45) #[] #[],.func (.func 46) #[] #[],.func (.func 47) #[] #[],.func (.func 47) #[] #[],.func (.func 47) #[] #[],.func (.func 47) #[] #[],.func (.func 39) #[] #[],.func (.func 39) #[] #[],.func (.func 39) #[] #[],.func (.func 39) #[] #[],.func (.func 39) #[] #[],.func (.func 39) #[] #[]] 82)]⟩ rfl ⟨rfl,(by omega),rfl,rfl,Aa⟩ ?_
 refine AB ?_
 refine q_c 16 0 [1] [[o0,o0],[o0,(oi 25),(a1 35)],[o0,o0,o0]] [(25:Int)=((25:Nat):Int),25<31,AU,Qb (w142.heap.size+9)] [(BK w142),(BP w142),(3,i6 26)] ⟨w,w142.heap.size+10,[(A8 w),(Ad z),(Ac z b11 cp8),(Ae n9 b11 cp8),(Ca.Am c18 F141 (Ca.put (Ca.put (fun _=>[]) (((32:Int) / 4 % 4).toNat) (Ca.touch ((fun _=>[]) (((32:Int) / 4 % 4).toNat)) ((32:Int) / 4))) (((33:Int) / 4 % 4).toNat) (Ca.touch ((Ca.put (fun _=>[]) (((32:Int) / 4 % 4).toNat) (Ca.touch ((fun _=>[]) (((32:Int) / 4 % 4).toNat)) ((32:Int) / 4))) (((33:Int) / 4 % 4).toNat)) ((33:Int) / 4)))),(Tl.AA t22 F134 (AO [(⟨0,2,7⟩:Ag)])),(AX w24 c18 t22),(AQ w24),(AP w24 n9),(Ai w34),(Ah w34),(Aj w75),(Aw w75),(Ap w75),(Ak w75 nm),(Aq w75),(Ar w75 nm),(Au w75 nm),(Az w75),(Be w75),(Bd w75),(AC w75 nm),(AV w75),(Ba w75),(BR w75 w24 n9),(AY w135),(Bf w142),(Bq w142),(Bh w142),(Bg w142 nm),(Bi w142),(Bj w142 nm),(Bl w142 nm),(Bv w142),(BM w142),(bk (w142.heap.size+9) #[.func (.func 39) #[] #[],.func (.func 40) #[] #[],.func (.func 41) #[] #[],.func (.func 42) #[] #[],.func (.func 43) #[] #[],.func (.func 39) #[] #[],.func (.func 39) #[] #[],.func (.func 39) #[] #[],.func (.func 39) #[] #[],.func (.func 39) #[] #[],.func (.func 39) #[] #[],.func (.func 39) #[] #[],.func (.func 39) #[] #[],.func (.func 39) #[] #[],.func (.func 39) #[] #[],.func (.func 39) #[] #[],.func (.func 39) #[] #[],.func (.func 39) #[] #[],.func (.func 44) #[] #[],.func (.func 45) #[] #[],.func (.func 46) #[] #[],.func (.func 47) #[] #[],.func (.func 47) #[] #[],.func (.func 47) #[] #[],.func (.func 47) #[] #[],.func (.func 47) #[] #[],.func (.func 39) #[] #[],.func (.func 39) #[] #[],.func (.func 39) #[] #[],.func (.func 39) #[] #[],.func (.func 39) #[] #[]] 82)]⟩ rfl ⟨rfl,(by omega),rfl,rfl,Aa⟩ ?_
 refine AB ?_
 refine q_c 24 0 [0] [[o0,o0],[(oi 26),(a1 35),(oi 27),(a1 35),(oi 28),(a1 35)],[(oi 29),(a1 35),(oi 30),(a1 35)],[(an 31 35),(an 31 34)]] [(26:Int)=((26:Nat):Int),26<31,AU,Qb (w142.heap.size+9),(27:Int)=((27:Nat):Int),27<31,AU,Qb (w142.heap.size+9),(28:Int)=((28:Nat):Int),28<31,AU,Qb (w142.heap.size+9),(29:Int)=((29:Nat):Int),29<31,AU,Qb (w142.heap.size+9),(30:Int)=((30:Nat):Int),30<31,AU,Qb (w142.heap.size+9),Qb (w142.heap.size+9),Qb (w142.heap.size+9),Qb (w142.heap.size+9),Qb (w142.heap.size+9),Qb (w142.heap.size+9),Qb (w142.heap.size+9),Qb (w142.heap.size+9),Qb (w142.heap.size+9),Qb (w142.heap.size+9),Qb (w142.heap.size+9),Qb (w142.heap.size+9),Qb (w142.heap.size+9),Qb (w142.heap.size+9),Qb (w142.heap.size+9),Qb (w142.heap.size+9),Qb (w142.heap.size+9),Qb (w142.heap.size+9),Qb (w142.heap.size+9),Qb (w142.heap.size+9),Qb (w142.heap.size+9),Qb (w142.heap.size+9),Qb (w142.heap.size+9),Qb (w142.heap.size+9),Qb (w142.heap.size+9),Qb (w142.heap.size+9),Qb (w142.heap.size+9),Qb (w142.heap.size+9),Qb (w142.heap.size+9),Qb (w142.heap.size+9),Qb (w142.heap.size+9),Qb (w142.heap.size+9),Qb (w142.heap.size+8),Qb (w142.heap.size+8),Qb (w142.heap.size+8),Qb (w142.heap.size+8),Qb (w142.heap.size+8),Qb (w142.heap.size+8),Qb (w142.heap.size+8),Qb (w142.heap.size+8),Qb (w142.heap.size+8),Qb (w142.heap.size+8),Qb (w142.heap.size+8),Qb (w142.heap.size+8),Qb (w142.heap.size+8),Qb (w142.heap.size+8),Qb (w142.heap.size+8),Qb (w142.heap.size+8),Qb (w142.heap.size+8),Qb (w142.heap.size+8),Qb (w142.heap.size+8),Qb (w142.heap.size+8),Qb (w142.heap.size+8),Qb (w142.heap.size+8),Qb (w142.heap.size+8),Qb (w142.heap.size+8),Qb (w142.heap.size+8),Qb (w142.heap.size+8),Qb (w142.heap.size+8),Qb (w142.heap.size+8),Qb (w142.heap.size+8),Qb (w142.heap.size+8),Qb (w142.heap.size+8)] [(BK w142)] ⟨w,w142.heap.size+10,(Ez w z b11 cp8 n9 c18 F141 t22 F134 w24 w34 w75 nm w135 w142)⟩ rfl ⟨rfl,(by omega),rfl,rfl,rfl,(by omega),rfl,rfl,rfl,(by omega),rfl,rfl,rfl,(by omega),rfl,rfl,rfl,(by omega),rfl,rfl,rfl,rfl,rfl,rfl,rfl,rfl,rfl,rfl,rfl,rfl,rfl,rfl,rfl,rfl,rfl,rfl,rfl,rfl,rfl,rfl,rfl,rfl,rfl,rfl,rfl,rfl,rfl,rfl,rfl,rfl,rfl,rfl,rfl,rfl,rfl,rfl,rfl,rfl,rfl,rfl,rfl,rfl,rfl,rfl,rfl,rfl,rfl,rfl,rfl,rfl,rfl,rfl,rfl,rfl,rfl,rfl,rfl,rfl,rfl,rfl,rfl,rfl,Aa⟩ ?_
 refine AL [.at 34,.at 34,.at 34,.at 34,.at 34,.at 34,.at 34,.at 34,.at 34,.at 34,.at 34,.at 34,.at 34,.at 34,.at 34,.at 34,.at 34,.at 34,.at 34,.at 34,.at 34,.at 34,.at 34,.at 34,.at 34,.at 34,.at 34,.at 34,.at 34,.at 34,.at 34] [Qb (w142.heap.size+8),Qb (w142.heap.size+8),Qb (w142.heap.size+8),Qb (w142.heap.size+8),Qb (w142.heap.size+8),Qb (w142.heap.size+8),Qb (w142.heap.size+8),Qb (w142.heap.size+8),Qb (w142.heap.size+8),Qb (w142.heap.size+8),Qb (w142.heap.size+8),Qb (w142.heap.size+8),Qb (w142.heap.size+8),Qb (w142.heap.size+8),Qb (w142.heap.size+8),Qb (w142.heap.size+8),Qb (w142.heap.size+8),Qb (w142.heap.size+8),Qb (w142.heap.size+8),Qb (w142.heap.size+8),Qb (w142.heap.size+8),Qb (w142.heap.size+8),Qb (w142.heap.size+8),Qb (w142.heap.size+8),Qb (w142.heap.size+8),Qb (w142.heap.size+8),Qb (w142.heap.size+8),Qb (w142.heap.size+8),Qb (w142.heap.size+8),Qb (w142.heap.size+8),Qb (w142.heap.size+8)] (.agg #[.func (.func 39) #[] #[],.func (.func 40) #[] #[],.func (.func 41) #[] #[],.func (.func 42) #[] #[],.func (.func 43) #[] #[],.func (.func 39) #[] #[],.func (.func 39) #[] #[],.func (.func 39) #[] #[],.func (.func 39) #[] #[],.func (.func 39) #[] #[],.func (.func 39) #[] #[],.func (.func 39) #[] #[],.func (.func 39) #[] #[],.func (.func 39) #[] #[],.func (.func 39) #[] #[],.func (.func 39) #[] #[],.func (.func 39) #[] #[],.func (.func 39) #[] #[],.func (.func 44) #[] #[],.func (.func 45) #[] #[],.func (.func 46) #[] #[],.func (.func 47) #[] #[],.func (.func 47) #[] #[],.func (.func 47) #[] #[],.func (.func 47) #[] #[],.func (.func 47) #[] #[],.func (.func 48) #[] #[],.func (.func 49) #[] #[],.func (.func 50) #[] #[],.func (.func 51) #[] #[],.func (.func 52) #[] #[]]) ⟨rfl,rfl,rfl,rfl,rfl,rfl,rfl,rfl,rfl,rfl,rfl,rfl,rfl,rfl,rfl,rfl,rfl,rfl,rfl,rfl,rfl,rfl,rfl,rfl,rfl,rfl,rfl,rfl,rfl,rfl,rfl,Aa⟩ ?_
 intro w182 hw182
 have hs183:=hw182
 refine⟨_,_,rfl,hs183,.inr (fun c hc=>hs183.all c (by first | exact hc | exact Cj (is:=[0,1,2,3,4,5,6,7,8,9,10,11,12,13,14,15,16,17,18,19,20,21,22,23,24,25,26,27,28,29,30,31,32,33]) rfl c hc)), ?_⟩
 refine Dx [0,8,10,71,73,66] [(Cf w24),(Dk w75),(Du w75),(71,i6 19),(73,pt (w75.heap.size+13)),(J9)] ?_
 refine Cb [(6,⟨.aidx 19 (.func (.func 45) #[] #[]),none⟩)] [0,8,10,73,72] [(19:Int)=((19:Nat):Int),19<31,(#[.func (.func 39) #[] #[],.func (.func 40) #[] #[],.func (.func 41) #[] #[],.func (.func 42) #[] #[],.func (.func 43) #[] #[],.func (.func 39) #[] #[],.func (.func 39) #[] #[],.func (.func 39) #[] #[],.func (.func 39) #[] #[],.func (.func 39) #[] #[],.func (.func 39) #[] #[],.func (.func 39) #[] #[],.func (.func 39) #[] #[],.func (.func 39) #[] #[],.func (.func 39) #[] #[],.func (.func 39) #[] #[],.func (.func 39) #[] #[],.func (.func 39) #[] #[],.func (.func 44) #[] #[],.func (.func 45) #[] #[],.func (.func 46) #[] #[],.func (.func 47) #[] #[],.func (.func 47) #[] #[],.func (.func 47) #[] #[],.func (.func 47) #[] #[],.func (.func 47) #[] #[],.func (.func 48) #[] #[],.func (.func 49) #[] #[],.func (.func 50) #[] #[],.func (.func 51) #[] #[],.func (.func 52) #[] #[]]:Array Value)[CY 1 19]? = some (.func (.func 45) #[] #[])] (CJ 8 2) [(Cf w24),(Dk w75),(Du w75),(73,pt (w75.heap.size+13)),(72,.func (.func 45) #[] #[])] ⟨rfl,(by omega),rfl,Aa⟩ ?_
 refine CU 8 ?_
 refine Dj [] [] 45 #[pt (w75.heap.size+13)] (some 74) (by as_aux_lemma=>kernel_rfl) rfl rfl Aa ?_
 intro w184 hw184
 refine A7 (args:=[pt (w75.heap.size+13)]) 56 ⟨w,w142.heap.size+10,(Ez w z b11 cp8 n9 c18 F141 t22 F134 w24 w34 w75 nm w135 w142)⟩ Tryd.func45 rfl (by kernel_rfl) (by kernel_rfl) hw184 ?_
 refine BF 5 0 [] [[o0]] [] [(Ce w75)] rfl Aa ?_
 refine Dw 15 [0,1,2,3,4,5,6,7,8,9,10,11,12,13,14,15,16,17,18,19,20,21,22,23,24,25,26,27,28,29,30,31,32,33,34,35] (Ez w z b11 cp8 n9 c18 F141 t22 F134 w24 w34 w75 nm w135 w142) rfl rfl ?_
 refine Cb [(0,o0),(1,o0),(2,o0),(3,o0),(4,o0),(5,(a1 24)),(6,o0),(7,o0),(8,o0),(9,(oi 0)),(10,(a1 24)),(11,o0)] [0,18,19] [Qb (w75.heap.size+13),(0:Int)=((0:Nat):Int),0<16,AU,Qb (w75.heap.size+13)] (CJ 12 3) [(Ce w75),(18,.int .u32 0),(19,pt (w75.heap.size+13))] ⟨rfl,rfl,(by omega),rfl,rfl,Aa⟩ ?_
 refine CU 12 ?_
 refine Dj [] [] 64 #[pt (w75.heap.size+13)] (some 20) (by as_aux_lemma=>kernel_rfl) rfl rfl Aa ?_
 intro w185 hw185
 refine A7 (args:=[pt (w75.heap.size+13)]) 9 ⟨w,w142.heap.size+10,(Ez w z b11 cp8 n9 c18 F141 t22 F134 w24 w34 w75 nm w135 w142)⟩ Tryd.func64 rfl (by kernel_rfl) (by kernel_rfl) hw185 ?_
 refine BF 9 0 [] [[o0],[o0,o0,o0,o0,(a1 24),o0,o0]] [Qb (w75.heap.size+13)] [(2,.int .u32 16)] rfl ⟨rfl,Aa⟩ ?_
 refine AL [] [] (.int .u32 16) Aa ?_
 intro w186 hw186
 have hs187:=hw186
 refine⟨_,_,rfl,hs187,.inr (fun c hc=>hs187.all c (by first | exact hc | exact Cj (is:=[0,1,2,3,4,5,6,7,8,9,10,11,12,13,14,15,16,17,18,19,20,21,22,23,24,25,26,27,28,29,30,31,32,33,34,35]) rfl c hc)), ?_⟩
 refine Dx [0,18,20] [(Ce w75),(18,.int .u32 0),(20,.int .u32 16)] ?_
 refine Cb [(13,o0),(14,o0)] [0,3] [] (CJ 15 0) [(Ce w75),(3,.int .u32 16)] Aa ?_
 refine Di ?_
 refine GM 3 2 [] [[o0,o0]] [] [(Ce w75),(3,.int .u32 16),(23,pt (w75.heap.size+13)),(24,.int .u32 16)] rfl Aa ?_
 refine l_call [] [] 37 #[pt (w75.heap.size+13),.int .u32 16,i6 1] (some 25) Aa ?_
 intro w188 hw188
 refine A7 (args:=[pt (w75.heap.size+13),.int .u32 16,i6 1]) 55 ⟨w,w142.heap.size+10,(Ez w z b11 cp8 n9 c18 F141 t22 F134 w24 w34 w75 nm w135 w142)⟩ Tryd.func37 rfl (by kernel_rfl) (by kernel_rfl) hw188 ?_
 refine BF 14 5 [0] [[o0,o0],[o0,o0],[o0,o0,o0,o0,o0]] [] [(Ce w75),(1,.int .u32 16),(16,pt (w75.heap.size+13)),(19,i6 1),(20,i6 1)] rfl Aa ?_
 refine l_call [] [] 56 #[pt (w75.heap.size+13),i6 1,i6 1] (some 21) Aa ?_
 intro w189 hw189
 refine A7 (args:=[pt (w75.heap.size+13),i6 1,i6 1]) 80 ⟨w,w142.heap.size+10,(Ez w z b11 cp8 n9 c18 F141 t22 F134 w24 w34 w75 nm w135 w142)⟩ Tryd.func56 rfl (by kernel_rfl) (by kernel_rfl) hw189 ?_
 refine BF 6 8 [] [[o0,o0],[o0,o0,o0,(a1 24),o0,o0,(a1 6),o0]] [Qb (w75.heap.size+13),Qb w24.heap.size] [(Ce w75),(1,i6 1),(2,i6 1),(18,pt t22),(19,i6 1)] rfl ⟨rfl,rfl,Aa⟩ ?_
 refine l_call [] [] 69 #[pt t22,i6 1] (some 20) Aa ?_
 intro w190 hw190
 have hgo:=Gi hw190 (i:=5) (xs:=[(⟨0,2,7⟩:Ag)]) rfl 1
 rw[show fV [(⟨0,2,7⟩:Ag)] 1=⟨0,0,0⟩from by kernel_rfl,show fB [(⟨0,2,7⟩:Ag)] 1=false from by kernel_rfl,show F5 [(⟨0,2,7⟩:Ag)] 1=[(⟨0,2,7⟩:Ag)]from by kernel_rfl]at hgo
 refine hgo.mono ?_
 rintro e w192 ⟨F191,rfl,hmw192,hSw192⟩
 have hnw192:w142.heap.size+10≤w192.heap.size:=hmw192
 refine⟨_,_,rfl,hSw192, ?_⟩
 refine D9 18 0 [1] [[o0,o0,o0,o0,(an 3 36),o0],[o0,o0],[o0,o0,o0,o0,(a1 24),o0,o0,o0,o0,(a1 24)],[o0]] [Qb w192.heap.size,Qb w192.heap.size,Qb w192.heap.size,Qb (w75.heap.size+13),Qb (w75.heap.size+13)] [(Ce w75),(1,i6 1),(2,i6 1),(DL w192)] ⟨w,w192.heap.size+1,(Jj w z b11 cp8 n9 c18 F141 t22 F191 w24 w34 w75 nm w135 w142 w192)⟩ rfl ⟨rfl,rfl,rfl,rfl,rfl,Aa⟩ ?_
 refine Dw 15 [0,1,2,3,4,5,6,7,8,9,10,11,12,13,14,15,16,17,18,19,20,21,22,23,24,25,26,27,28,29,30,31,32,33,34,35] [(A8 w),(Ad z),(Ac z b11 cp8),(Ae n9 b11 cp8),(Ca.Am c18 F141 (Ca.put (Ca.put (fun _=>[]) (((32:Int) / 4 % 4).toNat) (Ca.touch ((fun _=>[]) (((32:Int) / 4 % 4).toNat)) ((32:Int) / 4))) (((33:Int) / 4 % 4).toNat) (Ca.touch ((Ca.put (fun _=>[]) (((32:Int) / 4 % 4).toNat) (Ca.touch ((fun _=>[]) (((32:Int) / 4 % 4).toNat)) ((32:Int) / 4))) (((33:Int) / 4 % 4).toNat)) ((33:Int) / 4)))),(Tl.AA t22 F191 (AO [(⟨0,2,7⟩:Ag)])),(AX w24 c18 t22),(AQ w24),(AP w24 n9),(Ai w34),(Ah w34),(Aj w75),(Aw w75),(Ap w75),(Ak w75 nm),(Aq w75),(Ar w75 nm),(Au w75 nm),(Az w75),(Be w75),(Bd w75),(AC w75 nm),(AV w75),(Ba w75),(FH w75 w24 n9),(AY w135),(Bf w142),(Bq w142),(Bh w142),(Bg w142 nm),(Bi w142),(Bj w142 nm),(Bl w142 nm),(Bv w142),(Dq w142),(Dt w142)] rfl rfl ?_
 refine Cb [(0,o0),(1,o0),(2,o0),(3,(a1 24)),(4,o0),(5,o0),(6,o0),(7,(a1 24)),(8,o0)] [0,2,8,38,42,43] [Qb (w75.heap.size+13),Qb (w75.heap.size+13)] (CJ 9 6) [(Ce w75),(2,i6 1),(DL w192),(38,pt n9),(42,i6 0),(43,i6 1)] ⟨rfl,rfl,Aa⟩ ?_
 refine CU 9 ?_
 refine Dj [] [] 22 #[pt n9,i6 0,i6 1] (some 44) (by as_aux_lemma=>kernel_rfl) rfl rfl Aa ?_
 intro w193 hw193
 refine A7 (args:=[pt n9,i6 0,i6 1]) 61 ⟨w,w192.heap.size+1,(Jj w z b11 cp8 n9 c18 F141 t22 F191 w24 w34 w75 nm w135 w142 w192)⟩ Tryd.func22 rfl (by kernel_rfl) (by kernel_rfl) hw193 ?_
 refine q_c 13 2 [0] [[o0,o0],[o0,o0,o0],[o0,o0]] [] [(C9 n9),(1,i6 0),(2,i6 1),(G5 w192),(18,pt n9),(19,i6 0)] ⟨w,w192.heap.size+2,(CX w z b11 cp8 n9 c18 F141 t22 F191 w24 w34 w75 nm w135 w142 w192)⟩ rfl Aa ?_
 refine l_call [] [] 30 #[pt n9,i6 0] (some 20) Aa ?_
 intro w194 hw194
 refine A7 (args:=[pt n9,i6 0]) 13 ⟨w,w192.heap.size+2,(CX w z b11 cp8 n9 c18 F141 t22 F191 w24 w34 w75 nm w135 w142 w192)⟩ Tryd.func30 rfl (by kernel_rfl) (by kernel_rfl) hw194 ?_
 refine BF 6 5 [] [[o0],[o0,o0,o0,o0,o0]] [] [(7,.bool true),(8,i6 0),(EX n9)] rfl Aa ?_
 refine l_call [] [] 13 #[pt n9] (some 10) Aa ?_
 intro w195 hw195
 refine A7 (args:=[pt n9]) 11 ⟨w,w192.heap.size+2,(CX w z b11 cp8 n9 c18 F141 t22 F191 w24 w34 w75 nm w135 w142 w192)⟩ Tryd.func13 rfl (by kernel_rfl) (by kernel_rfl) hw195 ?_
 refine BF 17 0 [0] [[o0],[o0,o0],[o0,o0,o0,(a1 3),o0,o0,o0]] [Qb n9] [(2,i6 4)] rfl ⟨rfl,Aa⟩ ?_
 refine AL [] [] (i6 4) Aa ?_
 intro w196 hw196
 refine⟨_,_,rfl,hw196, ?_⟩
 refine BI 3 0 [] [[o0,o0,o0]] [] [(4,.bool true)] rfl Aa ?_
 refine AL [] [] (.bool true) Aa ?_
 intro w197 hw197
 refine⟨_,_,rfl,hw197, ?_⟩
 refine BI 13 4 [0,0] [[o0,o0],[o0,o0,o0,o0,o0,o0,o0],[o0,o0,o0,o0]] [] [(C9 n9),(2,i6 1),(G5 w192),(32,pt n9),(33,i6 0),(35,i6 0)] rfl Aa ?_
 refine l_call [] [] 34 #[pt n9,i6 0,i6 0] (some 36) Aa ?_
 intro w198 hw198
 refine A7 (args:=[pt n9,i6 0,i6 0]) 40 ⟨w,w192.heap.size+2,(CX w z b11 cp8 n9 c18 F141 t22 F191 w24 w34 w75 nm w135 w142 w192)⟩ Tryd.func34 rfl (by kernel_rfl) (by kernel_rfl) hw198 ?_
 refine BF 6 5 [] [[o0,o0,o0],[o0,o0,o0,o0,o0]] [] [(C9 n9),(15,pt n9),(19,i6 0)] rfl Aa ?_
 refine l_call [] [] 18 #[pt n9,i6 0] (some 20) Aa ?_
 intro w199 hw199
 refine A7 (args:=[pt n9,i6 0]) 20 ⟨w,w192.heap.size+2,(CX w z b11 cp8 n9 c18 F141 t22 F191 w24 w34 w75 nm w135 w142 w192)⟩ Tryd.func18 rfl (by kernel_rfl) (by kernel_rfl) hw199 ?_
 refine BF 7 2 [] [[o0,o0],[o0,o0]] [] [(C9 n9),(1,i6 0),(E8 n9),(8,i6 0)] rfl Aa ?_
 refine l_call [] [] 31 #[pt n9,i6 0,i6 1] (some 9) Aa ?_
 intro w200 hw200
 refine A7 (args:=[pt n9,i6 0,i6 1]) 35 ⟨w,w192.heap.size+2,(CX w z b11 cp8 n9 c18 F141 t22 F191 w24 w34 w75 nm w135 w142 w192)⟩ Tryd.func31 rfl (by kernel_rfl) (by kernel_rfl) hw200 ?_
 refine BF 25 0 [0,0] [[o0],[o0,o0],[o0,o0,o0,o0,o0,o0,o0,o0,o0,o0,o0,(a1 3),o0,o0,o0,o0,o0,o0,o0,o0,(a1 3),o0,o0,o0,o0,o0],[o0]] [Qb n9,Qb n9] [(6,i6 0)] rfl ⟨rfl,rfl,Aa⟩ ?_
 refine AL [] [] (i6 0) Aa ?_
 intro w201 hw201
 refine⟨_,_,rfl,hw201, ?_⟩
 refine BI 14 0 [0] [[o0],[o0,o0],[o0,o0,o0,(a1 3),o0,(oi 0),(oa [.via 2 (.int .u32 2147483656)]),o0,o0]] [Qb n9,(0:Int)=((0:Nat):Int),0<64,AU,∀ w',Ch.holds (Ac z b11 cp8) w'→w'.cell? ⟨b11,0,none⟩=some (.int .u32 2147483656)] [(4,.int .u32 2147483656),(5,i6 0)] rfl ⟨rfl,rfl,(by omega),rfl,DD (sz:=1) (j:=0) (k:=0) (fun _=>rfl) (by exact of_decide_eq_true (by kernel_rfl)) (by kernel_rfl),Aa⟩ ?_
 refine AL [] [] (.tuple #[.int .u32 2147483656,i6 0]) Aa ?_
 intro w202 hw202
 refine⟨_,_,rfl,hw202, ?_⟩
 refine BI 12 1 [0] [[o0,o0,o0,o0,o0],[o0,o0],[o0]] [] [(C9 n9),(27,.int .u32 2147483656)] rfl Aa ?_
 refine l_call [] [] 19 #[.int .u32 2147483656] (some 28) Aa ?_
 intro w203 hw203
 refine A7 (args:=[.int .u32 2147483656]) 15 ⟨w,w192.heap.size+2,(CX w z b11 cp8 n9 c18 F141 t22 F191 w24 w34 w75 nm w135 w142 w192)⟩ Tryd.func19 rfl (by kernel_rfl) (by kernel_rfl) hw203 ?_
 refine BF 17 0 [0] [[o0,o0,o0],[o0,o0,o0],[o0,o0,o0,o0,o0,o0,o0,o0,o0,o0]] [] [(2,i6 1),(3,i6 0),(4,.bool true)] rfl Aa ?_
 refine AL [] [] (.tuple #[i6 1,i6 0,.bool true]) Aa ?_
 intro w204 hw204
 refine⟨_,_,rfl,hw204, ?_⟩
 refine BI 13 2 [0] [[o0,o0,o0,o0,o0,o0,o0],[o0,o0],[o0,o0]] [] [(11,i6 1),(12,i6 0),(34,pt n9),(35,i6 1)] rfl Aa ?_
 refine l_call [] [] 30 #[pt n9,i6 1] (some 36) Aa ?_
 intro w205 hw205
 refine A7 (args:=[pt n9,i6 1]) 13 ⟨w,w192.heap.size+2,(CX w z b11 cp8 n9 c18 F141 t22 F191 w24 w34 w75 nm w135 w142 w192)⟩ Tryd.func30 rfl (by kernel_rfl) (by kernel_rfl) hw205 ?_
 refine BF 6 5 [] [[o0],[o0,o0,o0,o0,o0]] [] [(7,.bool true),(8,i6 1),(EX n9)] rfl Aa ?_
 refine l_call [] [] 13 #[pt n9] (some 10) Aa ?_
 intro w206 hw206
 refine A7 (args:=[pt n9]) 11 ⟨w,w192.heap.size+2,(CX w z b11 cp8 n9 c18 F141 t22 F191 w24 w34 w75 nm w135 w142 w192)⟩ Tryd.func13 rfl (by kernel_rfl) (by kernel_rfl) hw206 ?_
 refine BF 17 0 [0] [[o0],[o0,o0],[o0,o0,o0,(a1 3),o0,o0,o0]] [Qb n9] [(2,i6 4)] rfl ⟨rfl,Aa⟩ ?_
 refine AL [] [] (i6 4) Aa ?_
 intro w207 hw207
 refine⟨_,_,rfl,hw207, ?_⟩
 refine BI 3 0 [] [[o0,o0,o0]] [] [(4,.bool true)] rfl Aa ?_
 refine AL [] [] (.bool true) Aa ?_
 intro w208 hw208
 refine⟨_,_,rfl,hw208, ?_⟩
 refine BI 10 0 [0] [[o0],[o0,o0,o0,o0,o0]] [] [(6,i6 1),(7,i6 0),(8,i6 0)] rfl Aa ?_
 refine AL [] [] (.tuple #[i6 1,i6 0,i6 0]) Aa ?_
 intro w209 hw209
 refine⟨_,_,rfl,hw209, ?_⟩
 refine BI 12 4 [0] [[o0,o0,o0,o0,o0,o0,o0],[o0,o0],[o0,o0,o0,o0]] [] [(2,i6 1),(G5 w192),(45,pt n9),(46,i6 1),(48,i6 1)] rfl Aa ?_
 refine l_call [] [] 34 #[pt n9,i6 1,i6 1] (some 49) Aa ?_
 intro w210 hw210
 refine A7 (args:=[pt n9,i6 1,i6 1]) 40 ⟨w,w192.heap.size+2,(CX w z b11 cp8 n9 c18 F141 t22 F191 w24 w34 w75 nm w135 w142 w192)⟩ Tryd.func34 rfl (by kernel_rfl) (by kernel_rfl) hw210 ?_
 refine BF 6 5 [] [[o0,o0,o0],[o0,o0,o0,o0,o0]] [] [(C9 n9),(15,pt n9),(19,i6 17)] rfl Aa ?_
 refine l_call [] [] 18 #[pt n9,i6 17] (some 20) Aa ?_
 intro w211 hw211
 refine A7 (args:=[pt n9,i6 17]) 20 ⟨w,w192.heap.size+2,(CX w z b11 cp8 n9 c18 F141 t22 F191 w24 w34 w75 nm w135 w142 w192)⟩ Tryd.func18 rfl (by kernel_rfl) (by kernel_rfl) hw211 ?_
 refine BF 7 2 [] [[o0,o0],[o0,o0]] [] [(C9 n9),(1,i6 17),(E8 n9),(8,i6 17)] rfl Aa ?_
 refine l_call [] [] 31 #[pt n9,i6 17,i6 1] (some 9) Aa ?_
 intro w212 hw212
 refine A7 (args:=[pt n9,i6 17,i6 1]) 35 ⟨w,w192.heap.size+2,(CX w z b11 cp8 n9 c18 F141 t22 F191 w24 w34 w75 nm w135 w142 w192)⟩ Tryd.func31 rfl (by kernel_rfl) (by kernel_rfl) hw212 ?_
 refine BF 25 0 [0,0] [[o0],[o0,o0],[o0,o0,o0,o0,o0,o0,o0,o0,o0,o0,o0,(a1 3),o0,o0,o0,o0,o0,o0,o0,o0,(a1 3),o0,o0,o0,o0,o0],[o0]] [Qb n9,Qb n9] [(6,i6 0)] rfl ⟨rfl,rfl,Aa⟩ ?_
 refine AL [] [] (i6 0) Aa ?_
 intro w213 hw213
 refine⟨_,_,rfl,hw213, ?_⟩
 refine BI 14 0 [0] [[o0],[o0,o0],[o0,o0,o0,(a1 3),o0,(oi 17),(oa [.via 2 (.int .u32 2147483673)]),o0,o0]] [Qb n9,(17:Int)=((17:Nat):Int),17<64,AU,∀ w',Ch.holds (Ac z b11 cp8) w'→w'.cell? ⟨b11,17,none⟩=some (.int .u32 2147483673)] [(4,.int .u32 2147483673),(5,i6 0)] rfl ⟨rfl,rfl,(by omega),rfl,DD (sz:=1) (j:=17) (k:=0) (fun _=>rfl) (by exact of_decide_eq_true (by kernel_rfl)) (by kernel_rfl),Aa⟩ ?_
 refine AL [] [] (.tuple #[.int .u32 2147483673,i6 0]) Aa ?_
 intro w214 hw214
 refine⟨_,_,rfl,hw214, ?_⟩
 refine BI 12 1 [0] [[o0,o0,o0,o0,o0],[o0,o0],[o0]] [] [(C9 n9),(27,.int .u32 2147483673)] rfl Aa ?_
 refine l_call [] [] 19 #[.int .u32 2147483673] (some 28) Aa ?_
 intro w215 hw215
 refine A7 (args:=[.int .u32 2147483673]) 15 ⟨w,w192.heap.size+2,(CX w z b11 cp8 n9 c18 F141 t22 F191 w24 w34 w75 nm w135 w142 w192)⟩ Tryd.func19 rfl (by kernel_rfl) (by kernel_rfl) hw215 ?_
 refine BF 17 0 [0] [[o0,o0,o0],[o0,o0,o0],[o0,o0,o0,o0,o0,o0,o0,o0,o0,o0]] [] [(2,i6 3),(3,i6 1),(4,.bool true)] rfl Aa ?_
 refine AL [] [] (.tuple #[i6 3,i6 1,.bool true]) Aa ?_
 intro w216 hw216
 refine⟨_,_,rfl,hw216, ?_⟩
 refine BI 13 2 [0] [[o0,o0,o0,o0,o0,o0,o0],[o0,o0],[o0,o0]] [] [(11,i6 3),(12,i6 1),(34,pt n9),(35,i6 3)] rfl Aa ?_
 refine l_call [] [] 30 #[pt n9,i6 3] (some 36) Aa ?_
 intro w217 hw217
 refine A7 (args:=[pt n9,i6 3]) 13 ⟨w,w192.heap.size+2,(CX w z b11 cp8 n9 c18 F141 t22 F191 w24 w34 w75 nm w135 w142 w192)⟩ Tryd.func30 rfl (by kernel_rfl) (by kernel_rfl) hw217 ?_
 refine BF 6 5 [] [[o0],[o0,o0,o0,o0,o0]] [] [(7,.bool true),(8,i6 3),(EX n9)] rfl Aa ?_
 refine l_call [] [] 13 #[pt n9] (some 10) Aa ?_
 intro w218 hw218
 refine A7 (args:=[pt n9]) 11 ⟨w,w192.heap.size+2,(CX w z b11 cp8 n9 c18 F141 t22 F191 w24 w34 w75 nm w135 w142 w192)⟩ Tryd.func13 rfl (by kernel_rfl) (by kernel_rfl) hw218 ?_
 refine BF 17 0 [0] [[o0],[o0,o0],[o0,o0,o0,(a1 3),o0,o0,o0]] [Qb n9] [(2,i6 4)] rfl ⟨rfl,Aa⟩ ?_
 refine AL [] [] (i6 4) Aa ?_
 intro w219 hw219
 refine⟨_,_,rfl,hw219, ?_⟩
 refine BI 3 0 [] [[o0,o0,o0]] [] [(4,.bool true)] rfl Aa ?_
 refine AL [] [] (.bool true) Aa ?_
 intro w220 hw220
 refine⟨_,_,rfl,hw220, ?_⟩
 refine BI 10 0 [0] [[o0],[o0,o0,o0,o0,o0]] [] [(6,i6 3),(7,i6 1),(8,i6 0)] rfl Aa ?_
 refine AL [] [] (.tuple #[i6 3,i6 1,i6 0]) Aa ?_
 intro w221 hw221
 refine⟨_,_,rfl,hw221, ?_⟩
 refine D9 15 0 [0] [[o0,o0,o0,o0,o0,o0,o0],[o0,o0],[o0,o0,o0,o0,(an 3 37),o0]] [Qb (w192.heap.size+1),Qb (w192.heap.size+1),Qb (w192.heap.size+1)] [(G5 w192),(7,i6 0)] ⟨w,w192.heap.size+2,[(A8 w),(Ad z),(Ac z b11 cp8),(Ae n9 b11 cp8),(Ca.Am c18 F141 (Ca.put (Ca.put (fun _=>[]) (((32:Int) / 4 % 4).toNat) (Ca.touch ((fun _=>[]) (((32:Int) / 4 % 4).toNat)) ((32:Int) / 4))) (((33:Int) / 4 % 4).toNat) (Ca.touch ((Ca.put (fun _=>[]) (((32:Int) / 4 % 4).toNat) (Ca.touch ((fun _=>[]) (((32:Int) / 4 % 4).toNat)) ((32:Int) / 4))) (((33:Int) / 4 % 4).toNat)) ((33:Int) / 4)))),(Tl.AA t22 F191 (AO [(⟨0,2,7⟩:Ag)])),(AX w24 c18 t22),(AQ w24),(AP w24 n9),(Ai w34),(Ah w34),(Aj w75),(Aw w75),(Ap w75),(Ak w75 nm),(Aq w75),(Ar w75 nm),(Au w75 nm),(Az w75),(Be w75),(Bd w75),(AC w75 nm),(AV w75),(Ba w75),(FH w75 w24 n9),(AY w135),(Bf w142),(Bq w142),(Bh w142),(Bg w142 nm),(Bi w142),(Bj w142 nm),(Bl w142 nm),(Bv w142),(Dq w142),(Dt w142),(Ip w192),(D8 w192)]⟩ rfl ⟨rfl,rfl,rfl,Aa⟩ ?_
 refine AL [.at 37,.at 37,.at 37] [Qb (w192.heap.size+1),Qb (w192.heap.size+1),Qb (w192.heap.size+1)] (.tuple #[.agg #[i6 1,i6 3,i6 1],i6 0]) ⟨rfl,rfl,rfl,Aa⟩ ?_
 intro w222 hw222
 have hs223:=hw222
 refine⟨_,_,rfl,hs223,.inr (fun c hc=>hs223.all c (by first | exact hc | exact Cj (is:=[0,1,2,3,4,5,6,7,8,9,10,11,12,13,14,15,16,17,18,19,20,21,22,23,24,25,26,27,28,29,30,31,32,33,34,35]) rfl c hc)), ?_⟩
 refine Dx [0,2,8,44] [(Ce w75),(2,i6 1),(DL w192),(44,.tuple #[.agg #[i6 1,i6 3,i6 1],i6 0])] ?_
 refine Cb [(10,o0),(11,o0),(12,o0)] [0,2,8,45,46] [] (CJ 13 2) [(Ce w75),(2,i6 1),(DL w192),(45,.agg #[i6 1,i6 3,i6 1]),(46,i6 0)] Aa ?_
 refine CU 13 ?_
 refine EU (an 3 36) [0,2,8,46] [Qb w192.heap.size,Qb w192.heap.size,Qb w192.heap.size] [(Ce w75),(2,i6 1),(DL w192),(46,i6 0)] ⟨w,w192.heap.size+2,(Jf w z b11 cp8 n9 c18 F141 t22 F191 w24 w34 w75 nm w135 w142 w192)⟩ [0,1,2,3,4,5,6,7,8,9,10,11,12,13,14,15,16,17,18,19,20,21,22,23,24,25,26,27,28,29,30,31,32,33,34,35] ⟨rfl,rfl,rfl,Aa⟩ (.inr rfl) ?_
 refine Cb [(14,o0)] [0,2,8,10] [] (CJ 15 0) [(Ce w75),(2,i6 1),(DL w192),(10,i6 0)] Aa ?_
 refine Di ?_
 refine GM 8 0 [0] [[o0,o0]] [] [(Ce w75),(2,i6 1),(DL w192),(48,.bool false)] rfl Aa ?_
 refine Dw 8 [0,1,2,3,4,5,6,7,8,9,10,11,12,13,14,15,16,17,18,19,20,21,22,23,24,25,26,27,28,29,30,31,32,33,34,35,36,37] (Jf w z b11 cp8 n9 c18 F141 t22 F191 w24 w34 w75 nm w135 w142 w192) rfl rfl ?_
 refine Cb [(0,o0),(1,o0),(2,o0),(3,(a1 24)),(4,o0),(5,o0),(6,(a1 6)),(7,(an 3 36))] [0,2,8,55,56] [Qb (w75.heap.size+13),Qb w24.heap.size,Qb w192.heap.size,Qb w192.heap.size,Qb w192.heap.size] (CJ 8 1) [(Ce w75),(2,i6 1),(DL w192),(55,pt t22),(56,.agg #[i6 1,i6 3,i6 1])] ⟨rfl,rfl,rfl,rfl,rfl,Aa⟩ ?_
 refine CU 8 ?_
 refine Dj [] [] 70 #[pt t22,.agg #[i6 1,i6 3,i6 1]] (some 57) (by as_aux_lemma=>kernel_rfl) rfl rfl Aa ?_
 intro w224 hw224
 have hgo:=IU hw224 (i:=5) (xs:=[(⟨0,2,7⟩:Ag)]) rfl (⟨1,3,1⟩:Ag)
 rw[show KN (⟨1,3,1⟩:Ag)=0 from by kernel_rfl,show GX [(⟨0,2,7⟩:Ag)] (⟨1,3,1⟩:Ag)=[(⟨0,2,7⟩:Ag),(⟨1,3,1⟩:Ag)]from by kernel_rfl]at hgo
 refine hgo.mono ?_
 rintro e w226 ⟨F225,rfl,hmw226,hSw226⟩
 have hnw226:w192.heap.size+2≤w226.heap.size:=hmw226
 refine⟨_,_,rfl,hSw226,.inl rfl, ?_⟩
 refine Dx [0,2,8] [(Ce w75),(2,i6 1),(DL w192)] ?_
 refine EI 9 [0,1,2,3,4,5,6,7,8,9,10,11,12,13,14,15,16,17,18,19,20,21,22,23,24,25,26,27,28,29,30,31,32,33,34,35,36,37] (Il w z b11 cp8 n9 c18 F141 t22 F225 w24 w34 w75 nm w135 w142 w192) rfl rfl ?_
 refine Di ?_
 refine FZ [0,2,8] [(Ce w75),(2,i6 1),(DL w192)] ?_
 refine Gy <| JC <| Dw 24 [0,1,2,3,4,5,6,7,8,9,10,11,12,13,14,15,16,17,18,19,20,21,22,23,24,25,26,27,28,29,30,31,32,33,34,35,36,37] (Il w z b11 cp8 n9 c18 F141 t22 F225 w24 w34 w75 nm w135 w142 w192) rfl rfl ?_
 refine Cb [(0,o0),(1,(a1 36)),(2,o0),(3,(a1 36)),(4,o0),(5,o0),(6,o0),(7,o0),(8,o0),(9,(a1 36)),(10,o0),(11,o0),(12,o0),(13,o0),(14,(a1 36)),(15,o0),(16,o0),(17,o0),(18,(a1 24))] [59,70,72,76] [Qb w192.heap.size,Qb w192.heap.size,Qb w192.heap.size,Qb w192.heap.size,Qb (w75.heap.size+13)] (CJ 19 5) [(59,i6 3),(70,.bool true),(72,i6 3),(76,pt n9)] ⟨rfl,rfl,rfl,rfl,rfl,Aa⟩ ?_
 refine CU 19 ?_
 refine Dj [] [] 13 #[pt n9] (some 77) (by as_aux_lemma=>kernel_rfl) rfl rfl Aa ?_
 intro w227 hw227
 refine A7 (args:=[pt n9]) 11 ⟨w,w226.heap.size,(Il w z b11 cp8 n9 c18 F141 t22 F225 w24 w34 w75 nm w135 w142 w192)⟩ Tryd.func13 rfl (by kernel_rfl) (by kernel_rfl) hw227 ?_
 refine BF 17 0 [0] [[o0],[o0,o0],[o0,o0,o0,(a1 3),o0,o0,o0]] [Qb n9] [(2,i6 4)] rfl ⟨rfl,Aa⟩ ?_
 refine AL [] [] (i6 4) Aa ?_
 intro w228 hw228
 have hs229:=hw228
 refine⟨_,_,rfl,hs229,.inr (fun c hc=>hs229.all c (by first | exact hc | exact Cj (is:=[0,1,2,3,4,5,6,7,8,9,10,11,12,13,14,15,16,17,18,19,20,21,22,23,24,25,26,27,28,29,30,31,32,33,34,35,36,37]) rfl c hc)), ?_⟩
 refine Dx [59,70,72,77] [(59,i6 3),(70,.bool true),(72,i6 3),(77,i6 4)] ?_
 refine Cb [(20,o0),(21,o0),(22,o0),(23,o0)] [6,7] [] (CJ 24 0) [(6,i6 3),(7,.bool true)] Aa ?_
 refine Di ?_
 refine FZ [6,7] [(6,i6 3),(7,.bool true)] ?_
 refine Gy <| I9 <| AL [] [] (.tuple #[i6 3,.bool true]) Aa ?_
 intro w230 hw230
 refine⟨_,_,rfl,hw230, ?_⟩
 refine BI 16 8 [0] [[o0,o0,o0,o0,o0],[o0,o0],[o0,o0,o0,o0,o0,o0,o0],[o0,o0,o0,(a1 24),o0,o0,(a1 6),o0]] [Qb (w75.heap.size+13),Qb w24.heap.size] [(Ce w75),(10,i6 48),(39,pt c18),(40,i6 48)] rfl ⟨rfl,rfl,Aa⟩ ?_
 refine l_call [] [] 57 #[pt c18,i6 48] (some 41) Aa ?_
 intro w231 hw231
 have hgo:=Ca.Gf hw231 (i:=4) rfl 48 (by decide) (by decide)
 rw[show Ca.cost ((Ca.put (Ca.put (fun _=>[]) (((32:Int) / 4 % 4).toNat) (Ca.touch ((fun _=>[]) (((32:Int) / 4 % 4).toNat)) ((32:Int) / 4))) (((33:Int) / 4 % 4).toNat) (Ca.touch ((Ca.put (fun _=>[]) (((32:Int) / 4 % 4).toNat) (Ca.touch ((fun _=>[]) (((32:Int) / 4 % 4).toNat)) ((32:Int) / 4))) (((33:Int) / 4 % 4).toNat)) ((33:Int) / 4))) (((48:Int) / 4 % 4).toNat)) ((48:Int) / 4)=7 from by decide]at hgo
 refine hgo.mono ?_
 rintro e w233 ⟨F232,rfl,hmw233,hSw233⟩
 have hnw233:w226.heap.size≤w233.heap.size:=hmw233
 refine⟨_,_,rfl,hSw233, ?_⟩
 refine D9 11 0 [] [[o0,o0,o0,o0,o0],[o0,o0,o0,o0,(a1 24),o0,o0,o0,o0,o0,(a1 24)],[o0,o0,o0]] [Qb (w75.heap.size+13),Qb (w75.heap.size+13)] [(6,i6 48),(7,.bool true)] ⟨w,w233.heap.size,(Iu w z b11 cp8 n9 c18 F232 t22 F225 w24 w34 w75 nm w135 w142 w192)⟩ rfl ⟨rfl,rfl,Aa⟩ ?_
 refine AL [] [] (.tuple #[i6 48,.bool true]) Aa ?_
 intro w234 hw234
 refine⟨_,_,rfl,hw234, ?_⟩
 refine BI 12 5 [0] [[o0,o0,o0,o0,o0],[o0,o0],[o0,o0,o0,(a1 24),o0]] [Qb (w75.heap.size+13)] [(Ce w75),(3,.int .u32 16),(34,pt n9),(35,i6 48)] rfl ⟨rfl,Aa⟩ ?_
 refine l_call [] [] 18 #[pt n9,i6 48] (some 36) Aa ?_
 intro w235 hw235
 refine A7 (args:=[pt n9,i6 48]) 20 ⟨w,w233.heap.size,(Iu w z b11 cp8 n9 c18 F232 t22 F225 w24 w34 w75 nm w135 w142 w192)⟩ Tryd.func18 rfl (by kernel_rfl) (by kernel_rfl) hw235 ?_
 refine BF 7 2 [] [[o0,o0],[o0,o0]] [] [(C9 n9),(1,i6 48),(E8 n9),(8,i6 48)] rfl Aa ?_
 refine l_call [] [] 31 #[pt n9,i6 48,i6 1] (some 9) Aa ?_
 intro w236 hw236
 refine A7 (args:=[pt n9,i6 48,i6 1]) 35 ⟨w,w233.heap.size,(Iu w z b11 cp8 n9 c18 F232 t22 F225 w24 w34 w75 nm w135 w142 w192)⟩ Tryd.func31 rfl (by kernel_rfl) (by kernel_rfl) hw236 ?_
 refine BF 25 0 [0,0] [[o0],[o0,o0],[o0,o0,o0,o0,o0,o0,o0,o0,o0,o0,o0,(a1 3),o0,o0,o0,o0,o0,o0,o0,o0,(a1 3),o0,o0,o0,o0,o0],[o0]] [Qb n9,Qb n9] [(6,i6 0)] rfl ⟨rfl,rfl,Aa⟩ ?_
 refine AL [] [] (i6 0) Aa ?_
 intro w237 hw237
 refine⟨_,_,rfl,hw237, ?_⟩
 refine BI 14 0 [0] [[o0],[o0,o0],[o0,o0,o0,(a1 3),o0,(oi 48),(oa [.via 2 (.int .u32 77)]),o0,o0]] [Qb n9,(48:Int)=((48:Nat):Int),48<64,AU,∀ w',Ch.holds (Ac z b11 cp8) w'→w'.cell? ⟨b11,48,none⟩=some (.int .u32 77)] [(4,.int .u32 77),(5,i6 0)] rfl ⟨rfl,rfl,(by omega),rfl,DD (sz:=1) (j:=48) (k:=0) (fun _=>rfl) (by exact of_decide_eq_true (by kernel_rfl)) (by kernel_rfl),Aa⟩ ?_
 refine AL [] [] (.tuple #[.int .u32 77,i6 0]) Aa ?_
 intro w238 hw238
 refine⟨_,_,rfl,hw238, ?_⟩
 refine D9 8 2 [] [[o0,o0,o0,o0,o0],[o0,o0,o0,o0,o0,o0,o0,o0,(a1 24),o0,o0,o0,(a1 24),o0,o0,o0,(a1 24)],[o0,o0]] [Qb (w75.heap.size+13),Qb (w75.heap.size+13),Qb (w75.heap.size+13)] [(53,pt (w75.heap.size+13)),(54,.int .u32 77)] ⟨w,w233.heap.size,(Io w z b11 cp8 n9 c18 F232 t22 F225 w24 w34 w75 nm w135 w142 w192)⟩ rfl ⟨rfl,rfl,rfl,Aa⟩ ?_
 refine l_call [] [] 63 #[pt (w75.heap.size+13),.int .u32 77] (some 55) Aa ?_
 intro w239 hw239
 refine A7 (args:=[pt (w75.heap.size+13),.int .u32 77]) 16 ⟨w,w233.heap.size,(Io w z b11 cp8 n9 c18 F232 t22 F225 w24 w34 w75 nm w135 w142 w192)⟩ Tryd.func63 rfl (by kernel_rfl) (by kernel_rfl) hw239 ?_
 refine BF 5 0 [] [[o0]] [] [(Ce w75),(1,.int .u32 77)] rfl Aa ?_
 refine Dw 11 [0,1,2,3,4,5,6,7,8,9,10,11,12,13,14,15,16,17,18,19,20,21,22,23,24,25,26,27,28,29,30,31,32,33,34,35,36,37] (Io w z b11 cp8 n9 c18 F232 t22 F225 w24 w34 w75 nm w135 w142 w192) rfl rfl ?_
 refine Cb [(0,o0),(1,o0),(2,o0),(3,o0),(4,o0),(5,(a1 24)),(6,o0),(7,o0),(8,o0),(9,o0),(10,(oi 2))] [11,15] [Qb (w75.heap.size+13),(2:Int)=((2:Nat):Int),2<16,AU] (CJ 11 1) [(11,.int .u32 77),(15,.pointer (some ⟨w75.heap.size+13,2,none⟩))] ⟨rfl,rfl,(by omega),rfl,Aa⟩ ?_
 refine CU 11 ?_
 refine EU (a1 24) [] [Qb (w75.heap.size+13)] [] ⟨w,w233.heap.size,(EY w z b11 cp8 n9 c18 F232 t22 F225 w24 w34 w75 nm w135 w142 w192)⟩ [] ⟨rfl,Aa⟩ (.inl rfl) ?_
 refine EI 12 [0,1,2,3,4,5,6,7,8,9,10,11,12,13,14,15,16,17,18,19,20,21,22,23,24,25,26,27,28,29,30,31,32,33,34,35,36,37] (EY w z b11 cp8 n9 c18 F232 t22 F225 w24 w34 w75 nm w135 w142 w192) rfl rfl ?_
 refine Di ?_
 refine GM 6 0 [] [[o0]] [] [(4,i6 0)] rfl Aa ?_
 refine AL [] [] (i6 0) Aa ?_
 intro w240 hw240
 refine⟨_,_,rfl,hw240, ?_⟩
 refine BI 3 0 [] [[o0]] [] [(2,i6 0)] rfl Aa ?_
 refine AL [] [] (i6 0) Aa ?_
 intro w241 hw241
 refine⟨_,_,rfl,hw241,.inl rfl, ?_⟩
 refine Dx [0,8,10,74] [(Cf w24),(Dk w75),(Du w75),(74,i6 0)] ?_
 refine EI 10 [0,1,2,3,4,5,6,7,8,9,10,11,12,13,14,15,16,17,18,19,20,21,22,23,24,25,26,27,28,29,30,31,32,33,34,35,36,37] (EY w z b11 cp8 n9 c18 F232 t22 F225 w24 w34 w75 nm w135 w142 w192) rfl rfl ?_
 refine Cb [(9,o0)] [0,8,10,11] [] (CJ 10 0) [(Cf w24),(Dk w75),(Du w75),(11,i6 0)] Aa ?_
 refine Di ?_
 refine GM 10 0 [0] [[o0,o0]] [] [(Cf w24),(Dk w75),(Du w75),(11,i6 0),(76,.bool false)] rfl Aa ?_
 refine Dw 15 [0,1,2,3,4,5,6,7,8,9,10,11,12,13,14,15,16,17,18,19,20,21,22,23,24,25,26,27,28,29,30,31,32,33,34,35,36,37] (EY w z b11 cp8 n9 c18 F232 t22 F225 w24 w34 w75 nm w135 w142 w192) rfl rfl ?_
 refine Cb [(0,o0),(1,o0),(2,o0),(3,o0),(4,(a1 24)),(5,o0),(6,o0),(7,o0),(8,o0),(9,(a1 24))] [0,8,10,95,99,104] [Qb (w75.heap.size+13),Qb (w75.heap.size+13)] (CJ 10 6) [(Cf w24),(Dk w75),(Du w75),(95,pt (w75.heap.size+13)),(99,i6 14),(104,i6 19)] ⟨rfl,rfl,Aa⟩ ?_
 refine CU 10 ?_
 refine Dj [] [] 29 #[i6 19] (some 105) (by as_aux_lemma=>kernel_rfl) rfl rfl Aa ?_
 intro w242 hw242
 refine A7 (args:=[i6 19]) 6 ⟨w,w233.heap.size,(EY w z b11 cp8 n9 c18 F232 t22 F225 w24 w34 w75 nm w135 w142 w192)⟩ Tryd.func29 rfl (by kernel_rfl) (by kernel_rfl) hw242 ?_
 refine BF 6 1 [] [[o0],[o0]] [] [(3,i6 19)] rfl Aa ?_
 refine l_call [] [] 53 #[i6 19] (some 4) Aa ?_
 intro w243 hw243
 refine A7 (args:=[i6 19]) 13 ⟨w,w233.heap.size,(EY w z b11 cp8 n9 c18 F232 t22 F225 w24 w34 w75 nm w135 w142 w192)⟩ Tryd.func53 rfl (by kernel_rfl) (by kernel_rfl) hw243 ?_
 refine q_c 17 0 [0] [[o0],[o0,o0,o0,o0,o0,o0],[o0,(oi 19),(oa [.via 0 (.string (nm 19)),.via 0 (i6 6),.via 0 (i6 1)]),(an 3 38)]] [(19:Int)=((19:Nat):Int),19<31,AU,Old w 0 57 (.string (nm 19)),Old w 0 58 (i6 6),Old w 0 59 (i6 1),Qb w233.heap.size,Qb w233.heap.size,Qb w233.heap.size] [(2,pt w233.heap.size)] ⟨w,w233.heap.size+1,[(A8 w),(Ad z),(Ac z b11 cp8),(Ae n9 b11 cp8),(Ca.Am c18 F232 (Ca.put (Ca.put (Ca.put (fun _=>[]) (((32:Int) / 4 % 4).toNat) (Ca.touch ((fun _=>[]) (((32:Int) / 4 % 4).toNat)) ((32:Int) / 4))) (((33:Int) / 4 % 4).toNat) (Ca.touch ((Ca.put (fun _=>[]) (((32:Int) / 4 % 4).toNat) (Ca.touch ((fun _=>[]) (((32:Int) / 4 % 4).toNat)) ((32:Int) / 4))) (((33:Int) / 4 % 4).toNat)) ((33:Int) / 4))) (((48:Int) / 4 % 4).toNat) (Ca.touch ((Ca.put (Ca.put (fun _=>[]) (((32:Int) / 4 % 4).toNat) (Ca.touch ((fun _=>[]) (((32:Int) / 4 % 4).toNat)) ((32:Int) / 4))) (((33:Int) / 4 % 4).toNat) (Ca.touch ((Ca.put (fun _=>[]) (((32:Int) / 4 % 4).toNat) (Ca.touch ((fun _=>[]) (((32:Int) / 4 % 4).toNat)) ((32:Int) / 4))) (((33:Int) / 4 % 4).toNat)) ((33:Int) / 4))) (((48:Int) / 4 % 4).toNat)) ((48:Int) / 4)))),(Tl.AA t22 F225 (AO [(⟨0,2,7⟩:Ag),(⟨1,3,1⟩:Ag)])),(AX w24 c18 t22),(AQ w24),(AP w24 n9),(Ai w34),(Ah w34),(Aj w75),(Aw w75),(Ap w75),(Ak w75 nm),(Aq w75),(Ar w75 nm),(Au w75 nm),(Az w75),(Be w75),(Bd w75),(AC w75 nm),(AV w75),(Ba w75),(KC w75 w24 n9),(AY w135),(Bf w142),(Bq w142),(Bh w142),(Bg w142 nm),(Bi w142),(Bj w142 nm),(Bl w142 nm),(Bv w142),(Dq w142),(Dt w142),(DR w192),(D8 w192),(FK w233 nm)]⟩ rfl ⟨rfl,(by omega),rfl,BQ (hL 57 _ rfl),BQ (hL 58 _ rfl),BQ (hL 59 _ rfl),rfl,rfl,rfl,Aa⟩ ?_
 refine AL [.at 38,.at 38,.at 38] [Qb w233.heap.size,Qb w233.heap.size,Qb w233.heap.size] (.agg #[.string (nm 19),i6 6,i6 1]) ⟨rfl,rfl,rfl,Aa⟩ ?_
 intro w244 hw244
 refine⟨_,_,rfl,hw244, ?_⟩
 refine BI 3 0 [] [[o0,o0]] [] [(2,i6 1)] rfl Aa ?_
 refine AL [] [] (i6 1) Aa ?_
 intro w245 hw245
 have hs246:=hw245
 refine⟨_,_,rfl,hs246,.inr (fun c hc=>hs246.all c (by first | exact hc | exact Cj (is:=[0,1,2,3,4,5,6,7,8,9,10,11,12,13,14,15,16,17,18,19,20,21,22,23,24,25,26,27,28,29,30,31,32,33,34,35,36,37]) rfl c hc)), ?_⟩
 refine Dx [0,8,10,95,99,105] [(Cf w24),(Dk w75),(Du w75),(95,pt (w75.heap.size+13)),(99,i6 14),(105,i6 1)] ?_
 refine Cb [(11,o0),(12,o0),(13,o0),(14,o0)] [0,8,10,106,109] [] (CJ 15 1) [(Cf w24),(Dk w75),(Du w75),(106,i6 15),(109,.pointer (some ⟨w75.heap.size+13,26,none⟩))] Aa ?_
 refine CU 15 ?_
 refine EU (a1 24) [0,8,10] [Qb (w75.heap.size+13)] [(Cf w24),(Dk w75),(Du w75)] ⟨w,w233.heap.size+1,(J8 w z b11 cp8 n9 c18 F232 t22 F225 w24 w34 w75 nm w135 w142 w192 w233)⟩ [] ⟨rfl,Aa⟩ (.inl rfl) ?_
 refine EI 16 [0,1,2,3,4,5,6,7,8,9,10,11,12,13,14,15,16,17,18,19,20,21,22,23,24,25,26,27,28,29,30,31,32,33,34,35,36,37,38] (J8 w z b11 cp8 n9 c18 F232 t22 F225 w24 w34 w75 nm w135 w142 w192 w233) rfl rfl ?_
 refine Di ?_
 refine MW 10 0 [] [[o0,o0,o0,o0,(an 17 24),o0,o0,o0,(an 17 6)],[o0,o0,o0,(an 8 24),(an 8 23),o0]] [Qb (w75.heap.size+13),Qb (w75.heap.size+13),Qb (w75.heap.size+13),Qb (w75.heap.size+13),Qb (w75.heap.size+13),Qb (w75.heap.size+13),Qb (w75.heap.size+13),Qb (w75.heap.size+13),Qb (w75.heap.size+13),Qb (w75.heap.size+13),Qb (w75.heap.size+13),Qb (w75.heap.size+13),Qb (w75.heap.size+13),Qb (w75.heap.size+13),Qb (w75.heap.size+13),Qb (w75.heap.size+13),Qb (w75.heap.size+13),Qb w24.heap.size,Qb w24.heap.size,Qb w24.heap.size,Qb w24.heap.size,Qb w24.heap.size,Qb w24.heap.size,Qb w24.heap.size,Qb w24.heap.size,Qb w24.heap.size,Qb w24.heap.size,Qb w24.heap.size,Qb w24.heap.size,Qb w24.heap.size,Qb w24.heap.size,Qb w24.heap.size,Qb w24.heap.size,Qb w24.heap.size,Qb (w75.heap.size+13),Qb (w75.heap.size+13),Qb (w75.heap.size+13),Qb (w75.heap.size+13),Qb (w75.heap.size+13),Qb (w75.heap.size+13),Qb (w75.heap.size+13),Qb (w75.heap.size+13),Qb (w75.heap.size+12),Qb (w75.heap.size+12),Qb (w75.heap.size+12),Qb (w75.heap.size+12),Qb (w75.heap.size+12),Qb (w75.heap.size+12),Qb (w75.heap.size+12),Qb (w75.heap.size+12)] [(Dk w75),(9,i6 0)] ⟨w,w233.heap.size+1,[(A8 w),(Ad z),(Ac z b11 cp8),(Ae n9 b11 cp8),(Ca.Am c18 F232 (Ca.put (Ca.put (Ca.put (fun _=>[]) (((32:Int) / 4 % 4).toNat) (Ca.touch ((fun _=>[]) (((32:Int) / 4 % 4).toNat)) ((32:Int) / 4))) (((33:Int) / 4 % 4).toNat) (Ca.touch ((Ca.put (fun _=>[]) (((32:Int) / 4 % 4).toNat) (Ca.touch ((fun _=>[]) (((32:Int) / 4 % 4).toNat)) ((32:Int) / 4))) (((33:Int) / 4 % 4).toNat)) ((33:Int) / 4))) (((48:Int) / 4 % 4).toNat) (Ca.touch ((Ca.put (Ca.put (fun _=>[]) (((32:Int) / 4 % 4).toNat) (Ca.touch ((fun _=>[]) (((32:Int) / 4 % 4).toNat)) ((32:Int) / 4))) (((33:Int) / 4 % 4).toNat) (Ca.touch ((Ca.put (fun _=>[]) (((32:Int) / 4 % 4).toNat) (Ca.touch ((fun _=>[]) (((32:Int) / 4 % 4).toNat)) ((32:Int) / 4))) (((33:Int) / 4 % 4).toNat)) ((33:Int) / 4))) (((48:Int) / 4 % 4).toNat)) ((48:Int) / 4)))),(Tl.AA t22 F225 (AO [(⟨0,2,7⟩:Ag),(⟨1,3,1⟩:Ag)])),(Ib w24 c18 t22),(AQ w24),(AP w24 n9),(Ai w34),(Ah w34),(Aj w75),(Aw w75),(Ap w75),(Ak w75 nm),(Aq w75),(Ar w75 nm),(Au w75 nm),(Az w75),(Be w75),(Bd w75),(AC w75 nm),(AV w75),(Iq w75),(HY w75 w24 n9),(AY w135),(Bf w142),(Bq w142),(Bh w142),(Bg w142 nm),(Bi w142),(Bj w142 nm),(Bl w142 nm),(Bv w142),(Dq w142),(Dt w142),(DR w192),(D8 w192),(FK w233 nm)]⟩ rfl ⟨rfl,rfl,rfl,rfl,rfl,rfl,rfl,rfl,rfl,rfl,rfl,rfl,rfl,rfl,rfl,rfl,rfl,rfl,rfl,rfl,rfl,rfl,rfl,rfl,rfl,rfl,rfl,rfl,rfl,rfl,rfl,rfl,rfl,rfl,rfl,rfl,rfl,rfl,rfl,rfl,rfl,rfl,rfl,rfl,rfl,rfl,rfl,rfl,rfl,rfl,Aa⟩ ?_
 refine AL [.at 23,.at 23,.at 23,.at 23,.at 23,.at 23,.at 23,.at 23] [Qb (w75.heap.size+12),Qb (w75.heap.size+12),Qb (w75.heap.size+12),Qb (w75.heap.size+12),Qb (w75.heap.size+12),Qb (w75.heap.size+12),Qb (w75.heap.size+12),Qb (w75.heap.size+12)] (.tuple #[.agg #[i6 15,i6 0,i6 (-1),.int .u32 1,.int .u32 1283457040,.bool true,.int .u32 16,.int .u32 77],i6 0]) ⟨rfl,rfl,rfl,rfl,rfl,rfl,rfl,rfl,Aa⟩ ?_
 intro w247 hw247
 refine⟨_,_,rfl,hw247, ?_⟩
 refine D9 4 27 [] [[o0,o0,o0,o0,(an 8 39),o0],[o0,o0,o0,o0,o0,o0,o0,o0,(a1 22),o0,o0,o0,o0,(a1 39),o0,o0,o0,o0,(a1 39),o0,o0,o0,(a1 39),o0,o0,o0,o0]] [Qb (w233.heap.size+1),Qb (w233.heap.size+1),Qb (w233.heap.size+1),Qb (w233.heap.size+1),Qb (w233.heap.size+1),Qb (w233.heap.size+1),Qb (w233.heap.size+1),Qb (w233.heap.size+1),Qb (w75.heap.size+11),Qb (w233.heap.size+1),Qb (w233.heap.size+1),Qb (w233.heap.size+1)] [(60,.bool true),(61,pt w24.heap.size)] ⟨w,w233.heap.size+2,(J3 w z b11 cp8 n9 c18 F232 t22 F225 w24 w34 w75 nm w135 w142 w192 w233)⟩ rfl ⟨rfl,rfl,rfl,rfl,rfl,rfl,rfl,rfl,rfl,rfl,rfl,rfl,Aa⟩ ?_
 refine l_call [] [] 14 #[pt w24.heap.size] (some 62) Aa ?_
 intro w248 hw248
 refine A7 (args:=[pt w24.heap.size]) 11 ⟨w,w233.heap.size+2,(J3 w z b11 cp8 n9 c18 F232 t22 F225 w24 w34 w75 nm w135 w142 w192 w233)⟩ Tryd.func14 rfl (by kernel_rfl) (by kernel_rfl) hw248 ?_
 refine q_c 17 0 [0] [[o0],[o0,o0],[o0,o0,o0,o0,(an 17 6),(an 17 40)]] [Qb w24.heap.size,Qb w24.heap.size,Qb w24.heap.size,Qb w24.heap.size,Qb w24.heap.size,Qb w24.heap.size,Qb w24.heap.size,Qb w24.heap.size,Qb w24.heap.size,Qb w24.heap.size,Qb w24.heap.size,Qb w24.heap.size,Qb w24.heap.size,Qb w24.heap.size,Qb w24.heap.size,Qb w24.heap.size,Qb w24.heap.size,Qb (w233.heap.size+2),Qb (w233.heap.size+2),Qb (w233.heap.size+2),Qb (w233.heap.size+2),Qb (w233.heap.size+2),Qb (w233.heap.size+2),Qb (w233.heap.size+2),Qb (w233.heap.size+2),Qb (w233.heap.size+2),Qb (w233.heap.size+2),Qb (w233.heap.size+2),Qb (w233.heap.size+2),Qb (w233.heap.size+2),Qb (w233.heap.size+2),Qb (w233.heap.size+2),Qb (w233.heap.size+2),Qb (w233.heap.size+2)] [(2,pt (w233.heap.size+2))] ⟨w,w233.heap.size+3,[(A8 w),(Ad z),(Ac z b11 cp8),(Ae n9 b11 cp8),(Ca.Am c18 F232 (Ca.put (Ca.put (Ca.put (fun _=>[]) (((32:Int) / 4 % 4).toNat) (Ca.touch ((fun _=>[]) (((32:Int) / 4 % 4).toNat)) ((32:Int) / 4))) (((33:Int) / 4 % 4).toNat) (Ca.touch ((Ca.put (fun _=>[]) (((32:Int) / 4 % 4).toNat) (Ca.touch ((fun _=>[]) (((32:Int) / 4 % 4).toNat)) ((32:Int) / 4))) (((33:Int) / 4 % 4).toNat)) ((33:Int) / 4))) (((48:Int) / 4 % 4).toNat) (Ca.touch ((Ca.put (Ca.put (fun _=>[]) (((32:Int) / 4 % 4).toNat) (Ca.touch ((fun _=>[]) (((32:Int) / 4 % 4).toNat)) ((32:Int) / 4))) (((33:Int) / 4 % 4).toNat) (Ca.touch ((Ca.put (fun _=>[]) (((32:Int) / 4 % 4).toNat) (Ca.touch ((fun _=>[]) (((32:Int) / 4 % 4).toNat)) ((32:Int) / 4))) (((33:Int) / 4 % 4).toNat)) ((33:Int) / 4))) (((48:Int) / 4 % 4).toNat)) ((48:Int) / 4)))),(Tl.AA t22 F225 (AO [(⟨0,2,7⟩:Ag),(⟨1,3,1⟩:Ag)])),(Ib w24 c18 t22),(AQ w24),(AP w24 n9),(Ai w34),(Ah w34),(Aj w75),(Aw w75),(Ap w75),(Ak w75 nm),(Aq w75),(Ar w75 nm),(Au w75 nm),(Az w75),(Be w75),(Bd w75),(AC w75 nm),(AV w75),(Iq w75),(HY w75 w24 n9),(AY w135),(Bf w142),(Bq w142),(Bh w142),(Bg w142 nm),(Bi w142),(Bj w142 nm),(Bl w142 nm),(Bv w142),(Dq w142),(Dt w142),(DR w192),(D8 w192),(FK w233 nm),(Jv w233),(bk (w233.heap.size+2) #[.int .u32 0,.int .u32 5,.int .u32 77,.int .u32 0,.int .u32 0,.int .u32 0,.int .u32 0,.int .u32 0,.int .u32 0,.int .u32 0,.int .u32 0,.int .u32 0,.int .u32 0,.int .u32 0,.int .u32 0,.int .u32 0,.int .u32 2] 27)]⟩ rfl ⟨rfl,rfl,rfl,rfl,rfl,rfl,rfl,rfl,rfl,rfl,rfl,rfl,rfl,rfl,rfl,rfl,rfl,rfl,rfl,rfl,rfl,rfl,rfl,rfl,rfl,rfl,rfl,rfl,rfl,rfl,rfl,rfl,rfl,rfl,Aa⟩ ?_
 refine AL [.at 40,.at 40,.at 40,.at 40,.at 40,.at 40,.at 40,.at 40,.at 40,.at 40,.at 40,.at 40,.at 40,.at 40,.at 40,.at 40,.at 40] [Qb (w233.heap.size+2),Qb (w233.heap.size+2),Qb (w233.heap.size+2),Qb (w233.heap.size+2),Qb (w233.heap.size+2),Qb (w233.heap.size+2),Qb (w233.heap.size+2),Qb (w233.heap.size+2),Qb (w233.heap.size+2),Qb (w233.heap.size+2),Qb (w233.heap.size+2),Qb (w233.heap.size+2),Qb (w233.heap.size+2),Qb (w233.heap.size+2),Qb (w233.heap.size+2),Qb (w233.heap.size+2),Qb (w233.heap.size+2)] (.agg #[.int .u32 0,.int .u32 5,.int .u32 77,.int .u32 0,.int .u32 0,.int .u32 0,.int .u32 0,.int .u32 0,.int .u32 0,.int .u32 0,.int .u32 0,.int .u32 0,.int .u32 0,.int .u32 0,.int .u32 0,.int .u32 0,.int .u32 2]) ⟨rfl,rfl,rfl,rfl,rfl,rfl,rfl,rfl,rfl,rfl,rfl,rfl,rfl,rfl,rfl,rfl,rfl,Aa⟩ ?_
 intro w249 hw249
 refine⟨_,_,rfl,hw249, ?_⟩
 refine BI 3 0 [] [[o0,⟨.aidx 2 (.int .u32 77),none⟩,o0,o0,o0]] [(2:Int)=((2:Nat):Int),2<16,(#[.int .u32 0,.int .u32 5,.int .u32 77,.int .u32 0,.int .u32 0,.int .u32 0,.int .u32 0,.int .u32 0,.int .u32 0,.int .u32 0,.int .u32 0,.int .u32 0,.int .u32 0,.int .u32 0,.int .u32 0,.int .u32 0]:Array Value)[CY 1 2]? = some (.int .u32 77)] [(0,.bool true)] rfl ⟨rfl,(by omega),rfl,Aa⟩ ?_
 refine AL [] [] (.bool true) Aa ?_
 intro w250 hw250
 exact⟨rfl,Lh hw250⟩
theorem MK(w:World)(nm:Nat→ByteArray)(hL:H8 nm w):Calls Tryd.prog 3 #[] w fun e w'=>e = .returned (.bool true)∧Af (fun _=>False) w w':=by
 obtain⟨z,hz⟩:∃ z,z=w.heap.size:=⟨_,rfl⟩
 refine A7 (args:=[]) 4 ⟨w,z,[(A8 w)]⟩ Tryd.func3 rfl (by kernel_rfl) (by kernel_rfl) (Ld hz) ?_
 refine JX [] [] ?_
 refine BF 6 1 [] [[o0],[o0]] [] [(1,.bool true)] rfl Aa ?_
 refine MR 7 #[] (some 2) (.bool true) (fun w1 hw1=>Jr w1 nm (hL.ext (hw1.at (i:=0) rfl))) (fun n2 (hn3:z≤n2) => ?_)
 refine BI 3 0 [] [[o0,o0]] [] [(0,.bool true)] rfl Aa ?_
 refine AL [] [] (.bool true) Aa ?_
 intro w4 hw4
 exact⟨rfl,Lh hw4⟩
end Go.Proofs.YtjdkigkknhefpaaDoor.Co
namespace Go.Proofs.YtjdkigkknhefpaaDoor.Row
open Go.ChangeShapes Go.WideShapes Go.ChangeAt Go.RowKit
set_option linter.unusedSimpArgs false
set_option linter.unusedVariables false
set_option linter.unusedVariables false
section
variable {H:Type}{enc:TypeId×Value→H}{P:Program}
theorem I7(hl:laidOutB P=true){W W':World}(hb:Below W.heap.size W W') :
   ∀ {ts:List TypeId} {vs:List Value} {ds:List (DataW H)} {ps:List MemPlace},
     ts.all (fun t=>P.readableRec t&&decide (t<P.types.size))=true→(∀ x∈ps,x.block<W.heap.size) →
     DataW.TrodAll enc P W 0 (fun _=>true) true ts vs ds ps→DataW.TrodAll enc P W' 0 (fun b=>decide (b<W.heap.size)) true ts vs ds ps:=by
 intro ts
 induction ts with
 | nil =>
   intro vs ds ps _ _ h
   obtain⟨rfl,rfl,rfl⟩:=trodAll_nil h
   exact trodAll_mk0
 | cons t ts ih =>
   intro vs ds ps ht hlt h
   obtain⟨v0,vs0,d0,ds0,p0,q0,rfl,rfl,rfl,h0,r0⟩:=trodAll_cons h
   simp only[List.all_cons,Bool.and_eq_true,decide_eq_true_eq]at ht
   refine trodAll_cons_mk (Below.trod hl ht.1.1 ht.1.2 h0 hb (fun x hx=>hlt x (by simp[hx]))) (ih ht.2 (fun x hx=>hlt x (by simp[hx])) r0)
theorem MX(hl:laidOutB P=true){f:Func}{s:ChangeSpec}{tb:TypeId}{W W':World}{args:Array Value}{ds gs:List (DataW H)}{before:List MemPlace}
   (hts:f.params.toList.all (fun t=>P.readableRec t&&decide (t<P.types.size))=true) (hres:f.resultTypes = #[tb]) (hbool:P.underlying tb=some .bool)
   (hvars:s.vars=[]) (hfn:s.fn H (ds++gs)={ results:=[.lit (.bool true)],args:=ds })
   (hW:DataW.Whole enc P f.params.toList s.vars false W args.toList ds gs before) (bel:Below W.heap.size W W') :
   s.post enc P f false true false false W args (.bool true) W':=by
 have hW':=hW
 obtain⟨p,q,hA,hV,rfl,hfz,hnd⟩:=hW
 rw[hvars]at hV
 obtain⟨rfl,rfl⟩:=trodVars_none hV
 have hlt:∀ x∈p,x.block<W.heap.size:=fun x hx=>hW'.lt x (by simp[hx])
 refine⟨ds,[],_,[],p,[],hW', ?_, ?_, ?_,bel.frame _,fun h=>by cases h⟩
 · rw[hfn,hres];exact trodAll_mk1 (shut_bool hbool _)
 · rw[hfn];exact I7 hl bel hts hlt hA
 · rw[hfn,hvars];rfl
end
end Go.Proofs.YtjdkigkknhefpaaDoor.Row
