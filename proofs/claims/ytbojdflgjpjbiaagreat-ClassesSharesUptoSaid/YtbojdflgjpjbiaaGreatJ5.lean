/- A logic over the machine, and what the functions of the seat come to: part 5. No claim stands here; the theorems are used by the row. -/
import Derived.Test.YtbojdflgjpjbiaaGreatJ1
import Derived.Test.YtbojdflgjpjbiaaGreatJ3
import Derived.Test.YtbojdflgjpjbiaaGreatProg
import Derived.KernelRfl
set_option linter.unusedSimpArgs false
set_option linter.unnecessarySimpa false
set_option linter.unusedVariables false
namespace Go.Proofs.YtbojdflgjpjbiaaGreat.L
open Go
def GT:List TI:=[
 ⟨.other,0,0,[]⟩,
 ⟨.func,1,8,[.nilf]⟩,
 ⟨.int .i64,1,8,[.int .i64 0]⟩,
 ⟨.int .i64,1,8,[.int .i64 0]⟩,
 ⟨.bool,1,1,[.bool false]⟩,
 ⟨.int .u8,1,1,[.int .u8 0]⟩,
 ⟨.int .u8,1,1,[.int .u8 0]⟩,
 ⟨.struct [(0,2),(1,3),(2,4),(3,6)],4,24,[.int .i64 0,.int .i64 0,.bool false,.int .u8 0]⟩,
 ⟨.struct [(0,2),(1,3),(2,4),(3,6)],4,24,[.int .i64 0,.int .i64 0,.bool false,.int .u8 0]⟩,
 ⟨.str,1,16,[.str ⟨#[]⟩]⟩,
 ⟨.str,1,16,[.str ⟨#[]⟩]⟩,
 ⟨.str,1,16,[.str ⟨#[]⟩]⟩,
 ⟨.int .u64,1,8,[.int .u64 0]⟩,
 ⟨.struct [(0,9),(1,12)],2,24,[.str ⟨#[]⟩,.int .u64 0]⟩,
 ⟨.struct [(0,9),(1,12)],2,24,[.str ⟨#[]⟩,.int .u64 0]⟩,
 ⟨.ptr 347,1,8,[.nilp]⟩,
 ⟨.ptr 350,1,8,[.nilp]⟩,
 ⟨.ptr 358,1,8,[.nilp]⟩,
 ⟨.struct [(0,17)],1,8,[.nilp]⟩,
 ⟨.struct [(0,17)],1,8,[.nilp]⟩,
 ⟨.iface,1,16,[.nili]⟩,
 ⟨.int .i32,1,4,[.int .i32 0]⟩,
 ⟨.slice 42,1,24,[.nils]⟩,
 ⟨.slice 55,1,24,[.nils]⟩,
 ⟨.slice 3,1,24,[.nils]⟩,
 ⟨.slice 200,1,24,[.nils]⟩,
 ⟨.slice 9,1,24,[.nils]⟩,
 ⟨.struct [(0,22),(1,23),(2,24),(3,25),(4,26),(5,26),(6,3)],7,152,[.nils,.nils,.nils,.nils,.nils,.nils,.int .i64 0]⟩,
 ⟨.struct [(0,22),(1,23),(2,24),(3,25),(4,26),(5,26),(6,3)],7,152,[.nils,.nils,.nils,.nils,.nils,.nils,.int .i64 0]⟩,
 ⟨.func,1,8,[.nilf]⟩,
 ⟨.slice 63,1,24,[.nils]⟩,
 ⟨.int .i64,1,8,[.int .i64 0]⟩,
 ⟨.other,0,0,[]⟩,
 ⟨.func,1,8,[.nilf]⟩,
 ⟨.func,1,8,[.nilf]⟩,
 ⟨.func,1,8,[.nilf]⟩,
 ⟨.func,1,8,[.nilf]⟩,
 ⟨.func,1,8,[.nilf]⟩,
 ⟨.slice 51,1,24,[.nils]⟩,
 ⟨.other,0,0,[]⟩,
 ⟨.func,1,8,[.nilf]⟩,
 ⟨.struct [(0,9),(1,9),(2,26),(3,26),(4,4),(5,4)],6,88,[.str ⟨#[]⟩,.str ⟨#[]⟩,.nils,.nils,.bool false,.bool false]⟩,
 ⟨.struct [(0,9),(1,9),(2,26),(3,26),(4,4),(5,4)],6,88,[.str ⟨#[]⟩,.str ⟨#[]⟩,.nils,.nils,.bool false,.bool false]⟩,
 ⟨.func,1,8,[.nilf]⟩,
 ⟨.slice 46,1,24,[.nils]⟩,
 ⟨.struct [(0,3),(1,9),(2,3),(3,3),(4,44)],5,64,[.int .i64 0,.str ⟨#[]⟩,.int .i64 0,.int .i64 0,.nils]⟩,
 ⟨.struct [(0,3),(1,9),(2,3),(3,3),(4,44)],5,64,[.int .i64 0,.str ⟨#[]⟩,.int .i64 0,.int .i64 0,.nils]⟩,
 ⟨.slice 163,1,24,[.nils]⟩,
 ⟨.struct [(0,9),(1,46),(6,9),(7,3),(8,47)],9,128,[.str ⟨#[]⟩,.int .i64 0,.str ⟨#[]⟩,.int .i64 0,.int .i64 0,.nils,.str ⟨#[]⟩,.int .i64 0,.nils]⟩,
 ⟨.struct [(0,9),(1,46),(6,9),(7,3),(8,47)],9,128,[.str ⟨#[]⟩,.int .i64 0,.str ⟨#[]⟩,.int .i64 0,.int .i64 0,.nils,.str ⟨#[]⟩,.int .i64 0,.nils]⟩,
 ⟨.struct [(0,49),(9,9)],10,144,[.str ⟨#[]⟩,.int .i64 0,.str ⟨#[]⟩,.int .i64 0,.int .i64 0,.nils,.str ⟨#[]⟩,.int .i64 0,.nils,.str ⟨#[]⟩]⟩,
 ⟨.struct [(0,49),(9,9)],10,144,[.str ⟨#[]⟩,.int .i64 0,.str ⟨#[]⟩,.int .i64 0,.int .i64 0,.nils,.str ⟨#[]⟩,.int .i64 0,.nils,.str ⟨#[]⟩]⟩,
 ⟨.func,1,8,[.nilf]⟩,
 ⟨.slice 49,1,24,[.nils]⟩,
 ⟨.struct [(0,9),(1,26),(2,53),(3,4),(4,4)],5,72,[.str ⟨#[]⟩,.nils,.nils,.bool false,.bool false]⟩,
 ⟨.struct [(0,9),(1,26),(2,53),(3,4),(4,4)],5,72,[.str ⟨#[]⟩,.nils,.nils,.bool false,.bool false]⟩,
 ⟨.func,1,8,[.nilf]⟩,
 ⟨.func,1,8,[.nilf]⟩,
 ⟨.func,1,8,[.nilf]⟩,
 ⟨.func,1,8,[.nilf]⟩,
 ⟨.func,1,8,[.nilf]⟩,
 ⟨.slice 4,1,24,[.nils]⟩,
 ⟨.struct [(0,51),(10,3),(11,4)],12,160,[.str ⟨#[]⟩,.int .i64 0,.str ⟨#[]⟩,.int .i64 0,.int .i64 0,.nils,.str ⟨#[]⟩,.int .i64 0,.nils,.str ⟨#[]⟩,.int .i64 0,.bool false]⟩,
 ⟨.struct [(0,51),(10,3),(11,4)],12,160,[.str ⟨#[]⟩,.int .i64 0,.str ⟨#[]⟩,.int .i64 0,.int .i64 0,.nils,.str ⟨#[]⟩,.int .i64 0,.nils,.str ⟨#[]⟩,.int .i64 0,.bool false]⟩,
 ⟨.other,0,0,[]⟩,
 ⟨.func,1,8,[.nilf]⟩,
 ⟨.other,0,0,[]⟩,
 ⟨.func,1,8,[.nilf]⟩,
 ⟨.func,1,8,[.nilf]⟩,
 ⟨.arr 2 3,2,16,[.int .i64 0,.int .i64 0]⟩,
 ⟨.func,1,8,[.nilf]⟩,
 ⟨.struct [(0,38),(1,31)],2,32,[.nils,.int .i64 0]⟩,
 ⟨.struct [(0,38),(1,31)],2,32,[.nils,.int .i64 0]⟩,
 ⟨.func,1,8,[.nilf]⟩,
 ⟨.other,0,0,[]⟩,
 ⟨.func,1,8,[.nilf]⟩,
 ⟨.other,0,0,[]⟩,
 ⟨.func,1,8,[.nilf]⟩,
 ⟨.func,1,8,[.nilf]⟩,
 ⟨.func,1,8,[.nilf]⟩,
 ⟨.other,0,0,[]⟩,
 ⟨.func,1,8,[.nilf]⟩,
 ⟨.func,1,8,[.nilf]⟩,
 ⟨.func,1,8,[.nilf]⟩,
 ⟨.func,1,8,[.nilf]⟩,
 ⟨.func,1,8,[.nilf]⟩,
 ⟨.slice 97,1,24,[.nils]⟩,
 ⟨.struct [(0,22),(1,38),(2,38),(3,86)],4,96,[.nils,.nils,.nils,.nils]⟩,
 ⟨.struct [(0,22),(1,38),(2,38),(3,86)],4,96,[.nils,.nils,.nils,.nils]⟩,
 ⟨.slice 95,1,24,[.nils]⟩,
 ⟨.other,0,0,[]⟩,
 ⟨.func,1,8,[.nilf]⟩,
 ⟨.struct [(0,3),(1,3),(2,9)],3,32,[.int .i64 0,.int .i64 0,.str ⟨#[]⟩]⟩,
 ⟨.struct [(0,3),(1,3),(2,9)],3,32,[.int .i64 0,.int .i64 0,.str ⟨#[]⟩]⟩,
 ⟨.struct [(0,3),(1,3),(2,93)],5,48,[.int .i64 0,.int .i64 0,.int .i64 0,.int .i64 0,.str ⟨#[]⟩]⟩,
 ⟨.struct [(0,3),(1,3),(2,93)],5,48,[.int .i64 0,.int .i64 0,.int .i64 0,.int .i64 0,.str ⟨#[]⟩]⟩,
 ⟨.struct [(0,4),(1,93)],4,40,[.bool false,.int .i64 0,.int .i64 0,.str ⟨#[]⟩]⟩,
 ⟨.struct [(0,4),(1,93)],4,40,[.bool false,.int .i64 0,.int .i64 0,.str ⟨#[]⟩]⟩,
 ⟨.func,1,8,[.nilf]⟩,
 ⟨.func,1,8,[.nilf]⟩,
 ⟨.func,1,8,[.nilf]⟩,
 ⟨.func,1,8,[.nilf]⟩,
 ⟨.func,1,8,[.nilf]⟩,
 ⟨.struct [(0,38),(1,38)],2,48,[.nils,.nils]⟩,
 ⟨.struct [(0,38),(1,38)],2,48,[.nils,.nils]⟩,
 ⟨.func,1,8,[.nilf]⟩,
 ⟨.func,1,8,[.nilf]⟩,
 ⟨.other,0,0,[]⟩,
 ⟨.func,1,8,[.nilf]⟩,
 ⟨.func,1,8,[.nilf]⟩,
 ⟨.func,1,8,[.nilf]⟩,
 ⟨.ptr 171,1,8,[.nilp]⟩,
 ⟨.other,0,0,[]⟩,
 ⟨.func,1,8,[.nilf]⟩,
 ⟨.ptr 28,1,8,[.nilp]⟩,
 ⟨.ptr 42,1,8,[.nilp]⟩,
 ⟨.struct [(0,55),(5,115),(6,3)],7,88,[.str ⟨#[]⟩,.nils,.nils,.bool false,.bool false,.nilp,.int .i64 0]⟩,
 ⟨.struct [(0,55),(5,115),(6,3)],7,88,[.str ⟨#[]⟩,.nils,.nils,.bool false,.bool false,.nilp,.int .i64 0]⟩,
 ⟨.func,1,8,[.nilf]⟩,
 ⟨.other,0,0,[]⟩,
 ⟨.func,1,8,[.nilf]⟩,
 ⟨.func,1,8,[.nilf]⟩,
 ⟨.func,1,8,[.nilf]⟩,
 ⟨.func,1,8,[.nilf]⟩,
 ⟨.func,1,8,[.nilf]⟩,
 ⟨.func,1,8,[.nilf]⟩,
 ⟨.func,1,8,[.nilf]⟩,
 ⟨.other,0,0,[]⟩,
 ⟨.func,1,8,[.nilf]⟩,
 ⟨.struct [(0,4),(1,4),(2,44),(3,26),(4,26)],5,80,[.bool false,.bool false,.nils,.nils,.nils]⟩,
 ⟨.struct [(0,4),(1,4),(2,44),(3,26),(4,26)],5,80,[.bool false,.bool false,.nils,.nils,.nils]⟩,
 ⟨.func,1,8,[.nilf]⟩,
 ⟨.func,1,8,[.nilf]⟩,
 ⟨.func,1,8,[.nilf]⟩,
 ⟨.func,1,8,[.nilf]⟩,
 ⟨.func,1,8,[.nilf]⟩,
 ⟨.func,1,8,[.nilf]⟩,
 ⟨.func,1,8,[.nilf]⟩,
 ⟨.func,1,8,[.nilf]⟩,
 ⟨.func,1,8,[.nilf]⟩,
 ⟨.ptr 55,1,8,[.nilp]⟩,
 ⟨.func,1,8,[.nilf]⟩,
 ⟨.func,1,8,[.nilf]⟩,
 ⟨.func,1,8,[.nilf]⟩,
 ⟨.func,1,8,[.nilf]⟩,
 ⟨.func,1,8,[.nilf]⟩,
 ⟨.func,1,8,[.nilf]⟩,
 ⟨.func,1,8,[.nilf]⟩,
 ⟨.func,1,8,[.nilf]⟩,
 ⟨.func,1,8,[.nilf]⟩,
 ⟨.ptr 152,1,8,[.nilp]⟩,
 ⟨.struct [(0,22),(1,38),(2,86)],3,72,[.nils,.nils,.nils]⟩,
 ⟨.struct [(0,22),(1,38),(2,86)],3,72,[.nils,.nils,.nils]⟩,
 ⟨.func,1,8,[.nilf]⟩,
 ⟨.slice 153,1,24,[.nils]⟩,
 ⟨.other,0,0,[]⟩,
 ⟨.ptr 49,1,8,[.nilp]⟩,
 ⟨.func,1,8,[.nilf]⟩,
 ⟨.func,1,8,[.nilf]⟩,
 ⟨.func,1,8,[.nilf]⟩,
 ⟨.ptr 163,1,8,[.nilp]⟩,
 ⟨.slice 226,1,24,[.nils]⟩,
 ⟨.struct [(0,3),(1,9),(2,3),(3,46),(8,161),(9,26),(10,47)],11,168,[.int .i64 0,.str ⟨#[]⟩,.int .i64 0,.int .i64 0,.str ⟨#[]⟩,.int .i64 0,.int .i64 0,.nils,.nils,.nils,.nils]⟩,
 ⟨.struct [(0,3),(1,9),(2,3),(3,46),(8,161),(9,26),(10,47)],11,168,[.int .i64 0,.str ⟨#[]⟩,.int .i64 0,.int .i64 0,.str ⟨#[]⟩,.int .i64 0,.int .i64 0,.nils,.nils,.nils,.nils]⟩,
 ⟨.func,1,8,[.nilf]⟩,
 ⟨.func,1,8,[.nilf]⟩,
 ⟨.other,0,0,[]⟩,
 ⟨.func,1,8,[.nilf]⟩,
 ⟨.other,0,0,[]⟩,
 ⟨.map 9 3,1,8,[.nilm]⟩,
 ⟨.struct [(0,114),(1,169)],2,16,[.nilp,.nilm]⟩,
 ⟨.struct [(0,114),(1,169)],2,16,[.nilp,.nilm]⟩,
 ⟨.func,1,8,[.nilf]⟩,
 ⟨.func,1,8,[.nilf]⟩,
 ⟨.func,1,8,[.nilf]⟩,
 ⟨.func,1,8,[.nilf]⟩,
 ⟨.func,1,8,[.nilf]⟩,
 ⟨.func,1,8,[.nilf]⟩,
 ⟨.func,1,8,[.nilf]⟩,
 ⟨.other,0,0,[]⟩,
 ⟨.func,1,8,[.nilf]⟩,
 ⟨.func,1,8,[.nilf]⟩,
 ⟨.func,1,8,[.nilf]⟩,
 ⟨.func,1,8,[.nilf]⟩,
 ⟨.other,0,0,[]⟩,
 ⟨.func,1,8,[.nilf]⟩,
 ⟨.func,1,8,[.nilf]⟩,
 ⟨.func,1,8,[.nilf]⟩,
 ⟨.ptr 130,1,8,[.nilp]⟩,
 ⟨.func,1,8,[.nilf]⟩,
 ⟨.func,1,8,[.nilf]⟩,
 ⟨.func,1,8,[.nilf]⟩,
 ⟨.func,1,8,[.nilf]⟩,
 ⟨.func,1,8,[.nilf]⟩,
 ⟨.func,1,8,[.nilf]⟩,
 ⟨.func,1,8,[.nilf]⟩,
 ⟨.func,1,8,[.nilf]⟩,
 ⟨.slice 233,1,24,[.nils]⟩,
 ⟨.slice 236,1,24,[.nils]⟩,
 ⟨.struct [(0,9),(1,9),(2,3),(3,4),(4,197),(5,198)],6,96,[.str ⟨#[]⟩,.str ⟨#[]⟩,.int .i64 0,.bool false,.nils,.nils]⟩,
 ⟨.struct [(0,9),(1,9),(2,3),(3,4),(4,197),(5,198)],6,96,[.str ⟨#[]⟩,.str ⟨#[]⟩,.int .i64 0,.bool false,.nils,.nils]⟩,
 ⟨.func,1,8,[.nilf]⟩,
 ⟨.func,1,8,[.nilf]⟩,
 ⟨.ptr 242,1,8,[.nilp]⟩,
 ⟨.func,1,8,[.nilf]⟩,
 ⟨.func,1,8,[.nilf]⟩,
 ⟨.func,1,8,[.nilf]⟩,
 ⟨.func,1,8,[.nilf]⟩,
 ⟨.slice 26,1,24,[.nils]⟩,
 ⟨.func,1,8,[.nilf]⟩,
 ⟨.slice 218,1,24,[.nils]⟩,
 ⟨.func,1,8,[.nilf]⟩,
 ⟨.func,1,8,[.nilf]⟩,
 ⟨.func,1,8,[.nilf]⟩,
 ⟨.func,1,8,[.nilf]⟩,
 ⟨.func,1,8,[.nilf]⟩,
 ⟨.func,1,8,[.nilf]⟩,
 ⟨.struct [(0,9),(1,26)],2,40,[.str ⟨#[]⟩,.nils]⟩,
 ⟨.struct [(0,9),(1,26)],2,40,[.str ⟨#[]⟩,.nils]⟩,
 ⟨.func,1,8,[.nilf]⟩,
 ⟨.func,1,8,[.nilf]⟩,
 ⟨.func,1,8,[.nilf]⟩,
 ⟨.func,1,8,[.nilf]⟩,
 ⟨.func,1,8,[.nilf]⟩,
 ⟨.func,1,8,[.nilf]⟩,
 ⟨.struct [(0,9),(1,46)],6,80,[.str ⟨#[]⟩,.int .i64 0,.str ⟨#[]⟩,.int .i64 0,.int .i64 0,.nils]⟩,
 ⟨.struct [(0,9),(1,46)],6,80,[.str ⟨#[]⟩,.int .i64 0,.str ⟨#[]⟩,.int .i64 0,.int .i64 0,.nils]⟩,
 ⟨.func,1,8,[.nilf]⟩,
 ⟨.func,1,8,[.nilf]⟩,
 ⟨.func,1,8,[.nilf]⟩,
 ⟨.func,1,8,[.nilf]⟩,
 ⟨.func,1,8,[.nilf]⟩,
 ⟨.struct [(0,3),(1,9),(2,161),(3,46)],8,112,[.int .i64 0,.str ⟨#[]⟩,.nils,.int .i64 0,.str ⟨#[]⟩,.int .i64 0,.int .i64 0,.nils]⟩,
 ⟨.struct [(0,3),(1,9),(2,161),(3,46)],8,112,[.int .i64 0,.str ⟨#[]⟩,.nils,.int .i64 0,.str ⟨#[]⟩,.int .i64 0,.int .i64 0,.nils]⟩,
 ⟨.func,1,8,[.nilf]⟩,
 ⟨.struct [(0,9),(1,44)],2,40,[.str ⟨#[]⟩,.nils]⟩,
 ⟨.struct [(0,9),(1,44)],2,40,[.str ⟨#[]⟩,.nils]⟩,
 ⟨.ptr 233,1,8,[.nilp]⟩,
 ⟨.ptr 236,1,8,[.nilp]⟩,
 ⟨.func,1,8,[.nilf]⟩,
 ⟨.map 9 4,1,8,[.nilm]⟩,
 ⟨.struct [(0,22),(1,169),(2,240),(3,240)],4,48,[.nils,.nilm,.nilm,.nilm]⟩,
 ⟨.struct [(0,22),(1,169),(2,240),(3,240)],4,48,[.nils,.nilm,.nilm,.nilm]⟩,
 ⟨.func,1,8,[.nilf]⟩,
 ⟨.other,0,0,[]⟩,
 ⟨.func,1,8,[.nilf]⟩,
 ⟨.func,1,8,[.nilf]⟩,
 ⟨.func,1,8,[.nilf]⟩,
 ⟨.func,1,8,[.nilf]⟩,
 ⟨.func,1,8,[.nilf]⟩,
 ⟨.func,1,8,[.nilf]⟩,
 ⟨.func,1,8,[.nilf]⟩,
 ⟨.other,0,0,[]⟩,
 ⟨.func,1,8,[.nilf]⟩,
 ⟨.other,0,0,[]⟩,
 ⟨.func,1,8,[.nilf]⟩,
 ⟨.func,1,8,[.nilf]⟩,
 ⟨.func,1,8,[.nilf]⟩,
 ⟨.func,1,8,[.nilf]⟩,
 ⟨.func,1,8,[.nilf]⟩,
 ⟨.func,1,8,[.nilf]⟩,
 ⟨.func,1,8,[.nilf]⟩,
 ⟨.func,1,8,[.nilf]⟩,
 ⟨.func,1,8,[.nilf]⟩,
 ⟨.func,1,8,[.nilf]⟩,
 ⟨.func,1,8,[.nilf]⟩,
 ⟨.func,1,8,[.nilf]⟩,
 ⟨.func,1,8,[.nilf]⟩,
 ⟨.func,1,8,[.nilf]⟩,
 ⟨.ptr 294,1,8,[.nilp]⟩,
 ⟨.other,0,0,[]⟩,
 ⟨.func,1,8,[.nilf]⟩,
 ⟨.func,1,8,[.nilf]⟩,
 ⟨.func,1,8,[.nilf]⟩,
 ⟨.func,1,8,[.nilf]⟩,
 ⟨.func,1,8,[.nilf]⟩,
 ⟨.func,1,8,[.nilf]⟩,
 ⟨.func,1,8,[.nilf]⟩,
 ⟨.func,1,8,[.nilf]⟩,
 ⟨.ptr 282,1,8,[.nilp]⟩,
 ⟨.arr 2 4,2,2,[.bool false,.bool false]⟩,
 ⟨.struct [(0,203),(1,44),(2,44),(3,44),(4,280)],6,88,[.nilp,.nils,.nils,.nils,.bool false,.bool false]⟩,
 ⟨.struct [(0,203),(1,44),(2,44),(3,44),(4,280)],6,88,[.nilp,.nils,.nils,.nils,.bool false,.bool false]⟩,
 ⟨.func,1,8,[.nilf]⟩,
 ⟨.func,1,8,[.nilf]⟩,
 ⟨.func,1,8,[.nilf]⟩,
 ⟨.func,1,8,[.nilf]⟩,
 ⟨.func,1,8,[.nilf]⟩,
 ⟨.func,1,8,[.nilf]⟩,
 ⟨.func,1,8,[.nilf]⟩,
 ⟨.func,1,8,[.nilf]⟩,
 ⟨.func,1,8,[.nilf]⟩,
 ⟨.map 9 26,1,8,[.nilm]⟩,
 ⟨.struct [(0,210),(1,169),(2,292)],3,40,[.nils,.nilm,.nilm]⟩,
 ⟨.struct [(0,210),(1,169),(2,292)],3,40,[.nils,.nilm,.nilm]⟩,
 ⟨.func,1,8,[.nilf]⟩,
 ⟨.ptr 31,1,8,[.nilp]⟩,
 ⟨.func,1,8,[.nilf]⟩,
 ⟨.func,1,8,[.nilf]⟩,
 ⟨.func,1,8,[.nilf]⟩,
 ⟨.arr 5 9,5,80,[.str ⟨#[]⟩,.str ⟨#[]⟩,.str ⟨#[]⟩,.str ⟨#[]⟩,.str ⟨#[]⟩]⟩,
 ⟨.func,1,8,[.nilf]⟩,
 ⟨.map 3 301,1,8,[.nilm]⟩,
 ⟨.func,1,8,[.nilf]⟩,
 ⟨.func,1,8,[.nilf]⟩,
 ⟨.func,1,8,[.nilf]⟩,
 ⟨.slice 44,1,24,[.nils]⟩,
 ⟨.func,1,8,[.nilf]⟩,
 ⟨.func,1,8,[.nilf]⟩,
 ⟨.other,0,0,[]⟩,
 ⟨.struct [(0,3)],1,8,[.int .i64 0]⟩,
 ⟨.struct [(0,3)],1,8,[.int .i64 0]⟩,
 ⟨.func,1,8,[.nilf]⟩,
 ⟨.func,1,8,[.nilf]⟩,
 ⟨.func,1,8,[.nilf]⟩,
 ⟨.func,1,8,[.nilf]⟩,
 ⟨.func,1,8,[.nilf]⟩,
 ⟨.int .u64,1,8,[.int .u64 0]⟩,
 ⟨.func,1,8,[.nilf]⟩,
 ⟨.func,1,8,[.nilf]⟩,
 ⟨.other,0,0,[]⟩,
 ⟨.func,1,8,[.nilf]⟩,
 ⟨.func,1,8,[.nilf]⟩,
 ⟨.func,1,8,[.nilf]⟩,
 ⟨.func,1,8,[.nilf]⟩,
 ⟨.int .i64,1,8,[.int .i64 0]⟩,
 ⟨.other,0,0,[]⟩,
 ⟨.func,1,8,[.nilf]⟩,
 ⟨.func,1,8,[.nilf]⟩,
 ⟨.func,1,8,[.nilf]⟩,
 ⟨.func,1,8,[.nilf]⟩,
 ⟨.func,1,8,[.nilf]⟩,
 ⟨.int .u32,1,4,[.int .u32 0]⟩,
 ⟨.func,1,8,[.nilf]⟩,
 ⟨.int .u64,1,8,[.int .u64 0]⟩,
 ⟨.func,1,8,[.nilf]⟩,
 ⟨.int .u64,1,8,[.int .u64 0]⟩,
 ⟨.func,1,8,[.nilf]⟩,
 ⟨.func,1,8,[.nilf]⟩,
 ⟨.func,1,8,[.nilf]⟩,
 ⟨.ptr 3,1,8,[.nilp]⟩,
 ⟨.func,1,8,[.nilf]⟩,
 ⟨.ptr 336,1,8,[.nilp]⟩,
 ⟨.other,0,0,[]⟩,
 ⟨.func,1,8,[.nilf]⟩,
 ⟨.func,1,8,[.nilf]⟩,
 ⟨.struct [(0,17),(1,17),(2,17),(3,9)],4,40,[.nilp,.nilp,.nilp,.str ⟨#[]⟩]⟩,
 ⟨.struct [(0,17),(1,17),(2,17),(3,9)],4,40,[.nilp,.nilp,.nilp,.str ⟨#[]⟩]⟩,
 ⟨.other,0,0,[]⟩,
 ⟨.other,0,0,[]⟩,
 ⟨.other,0,0,[]⟩,
 ⟨.int .u8,1,1,[.int .u8 0]⟩,
 ⟨.int .u8,1,1,[.int .u8 0]⟩,
 ⟨.func,1,8,[.nilf]⟩,
 ⟨.ptr 5,1,8,[.nilp]⟩,
 ⟨.int .i32,1,4,[.int .i32 0]⟩,
 ⟨.int .i32,1,4,[.int .i32 0]⟩,
 ⟨.struct [(0,12),(1,12),(2,332),(3,351),(4,5),(5,5),(6,352),(7,353),(8,354),(9,355),(10,356)],11,48,[.int .u64 0,.int .u64 0,.int .u32 0,.int .u8 0,.int .u8 0,.int .u8 0,.int .u8 0,.nilf,.nilp,.int .i32 0,.int .i32 0]⟩,
 ⟨.struct [(0,12),(1,12),(2,332),(3,351),(4,5),(5,5),(6,352),(7,353),(8,354),(9,355),(10,356)],11,48,[.int .u64 0,.int .u64 0,.int .u32 0,.int .u8 0,.int .u8 0,.int .u8 0,.int .u8 0,.nilf,.nilp,.int .i32 0,.int .i32 0]⟩,
 ⟨.func,1,8,[.nilf]⟩,
 ⟨.other,0,0,[]⟩]
theorem aI:jI Tryz.prog GT:=gB_ok (by kernel_rfl)
section
attribute [local irreducible] T TL
noncomputable abbrev PP:=Tryz.prog
class cH (f:Nat) (args:List PV) (p:outParam PV):Prop where
 h:FnP PP f args p
theorem tE {f:Nat} {args:List PV} {S:aD} {p:PV} {kr kp:PV→aD→Prop} [c:cH f args p] (hk:kr p S):kJ PP f args S kr kp:=bE c.h hk
theorem drawC_sp {f:Nat} {args:List PV} {S:aD} {p:PV} [c:cH f args p]:∃ S1,bV S S1∧Fn PP f args S1 fun o S'=>o=.ret p∧S'=S1:=⟨E,aM _,c.h⟩
theorem fC {c:Prop} [Decidable c] {A B:Prop} (h1:c→A) (h2:¬ c→B):(decide c=true→A)∧(decide c=false→B):=⟨fun h=>h1 (of_decide_eq_true h),fun h=>h2 (of_decide_eq_false h)⟩
theorem ifF {c:Prop} [Decidable c] {A B:Prop} (h1:¬ c→A) (h2:c→B):(decide c=false→A)∧(decide c=true→B):=⟨fun h=>h1 (of_decide_eq_false h),fun h=>h2 (of_decide_eq_true h)⟩
theorem ifNF {c:Prop} [Decidable c] {A B:Prop} (h1:c→A) (h2:¬ c→B):((!decide c)=false→A)∧((!decide c)=true→B):=⟨fun h=>h1 (by simpa using h),fun h=>h2 (by simpa using h)⟩
theorem ifN {c:Prop} [Decidable c] {A B:Prop} (h1:¬ c→A) (h2:c→B):((!decide c)=true→A)∧((!decide c)=false→B):=⟨fun h=>h1 (by simpa using h),fun h=>h2 (by simpa using h)⟩
theorem zV {n:Int} {len:Nat} {k:Nat→Prop} (j:Nat) (h:n=j) (hj:j<len) (hk:k j):∃ j:Nat,n=j∧j<len∧k j:=⟨j,h,hj,hk⟩
theorem mS {α:Type} {S:aD} {g ver i sz e:Nat} {f:α→List PV} {l:List α} {k:List PV→Prop} (h:S g=some (.row ver sz e (l.map f))) (hi:i<l.length) (hk:k (f l[i])):ldW S g ver i sz k:=
 aS h (by simp[hi]) hk
theorem lM {α:Type} {S:aD} {g ver i sz e:Nat} {f:α→List PV} {l:List α} {k:List PV→Prop} (h:S g=some (.row ver sz e (l.map f))) (hi:i<l.length) (hk:k (f l[i])):ldW S g ver (0+i) sz k:=by
 rw[Nat.zero_add];exact mS h hi hk
theorem rM {α:Type} {S:aD} {g ver i sz e:Nat} {f:α→List PV} {l:List α} {c:List PV} {k:aD→Prop} (y:α) (h:S g=some (.row ver sz e (l.map f))) (hi:i<l.length) (hl:(f l[i]).length=1) (hy:c=f y) (hc:c.length=1)
  (hk:k (aK S g (.row ver sz e ((l.set i y).map f)))):stW S g ver i 0 sz c k:=by
 refine eR h (by simp[hi];rfl) (by omega) fun new hn=>?_
 have e1:new=f y:=by
  subst hy
  match hf:f l[i],hl with
  | [a],_=>
   match hg:f y,hc with
   | [b],_=>rw[hf,hg] at hn;exact hn.symm
 subst e1
 rw[List.map_set] at hk
 exact hk
theorem qN {α:Type} {S:aD} {g ver i sz e:Nat} {f:α→List PV} {l:List α} {c:List PV} {k:aD→Prop} (y:α) (h:S g=some (.row ver sz e (l.map f))) (hi:i<l.length) (hl:(f l[i]).length=1) (hy:c=f y) (hc:c.length=1)
  (hk:k (aK S g (.row ver sz e ((l.set i y).map f)))):stW S g ver (0+i) 0 sz c k:=by
 rw[Nat.zero_add];exact rM y h hi hl hy hc hk
theorem uG {S:aD} {g ver j sz e:Nat} {old c:List PV} {k:aD→Prop} (hj:j+c.length≤old.length) (hk:lE old j c fun new=>k (aK S g (.row ver sz e [new]))):stW (aK S g (.row ver sz e [old])) g ver 0 j sz c k:=by
 refine eR (aA _ _ _) rfl hj fun new hn=>?_
 rw[pC] at hk hn
 rw[aN,← hn]
 exact hk
theorem inl1 {A:Prop} {S:aD} {sz e:Nat} {c:List PV} {k:Nat→aD→Prop} (h:A):A∨rJ S (.row 0 sz e [c]) k:=.inl h
theorem sol1 {S:aD} {c:List PV} {n:Nat} (h1:c.length=n) (h2:dS S c):∀ x∈[c],x.length=n∧dS S x:=by
 intro x hx;rw[List.mem_singleton.1 hx];exact⟨h1,h2⟩
theorem lenR {n:Nat} {p:Prop} (h:n≤4611686018427387904) (k:p):n≤4611686018427387904∧p:=⟨h,k⟩
theorem capI {a b e:Nat} {p:Prop} (h:(a+b)*e≤140737488355328) (k:p):(a+b)*e≤cap47∧p:=⟨h,k⟩
theorem lenI {α:Type} {f:α→List PV} {l:List α} {p:Prop} (k:p):(l.map f).length=l.length∧p:=⟨by simp,k⟩
theorem lL {α:Type} {f:α→List PV} {l0:List α} {a:Nat} {k:List (List PV)→Prop} (h:a+1≤l0.length) (hk:k ((l0.drop (a+1)).map f)):zT (some ((a:Int)+1)) none (l0.map f) k:=kN (l:=a+1) (by omega) h hk
theorem lQ {α:Type} {f:α→List PV} {l0:List α} {a:Nat} {k:List (List PV)→Prop} (h:a+1≤l0.length) (hk:k ((l0.take (a+1)).map f)):zT none (some ((a:Int)+1)) (l0.map f) k:=kE (h:=a+1) (by omega) h hk
theorem kA {α:Type} {f:α→List PV} {l:List α} {i:Nat} {k:List PV→Prop} (h:i+1<l.length) (hk:k (f l[i+1])):idxW (l.map f) ((i:Int)+1) k:=bS (i:=i+1) h hk
theorem lV {A B:PV→Prop} {p:PV} (k:B p) (h:A p:=by
 conv=>whnf
 repeat (first | exact rfl | exact drawC_sp | (refine And.intro (fun _=>?_) pJ;conv=>whnf) | (refine And.intro (fun _=>?_) pH;conv=>whnf) | (refine And.intro pJ (fun _=>?_);conv=>whnf) | (refine And.intro pH (fun _=>?_);conv=>whnf) | (refine And.intro (jT fun _=>rfl) ?_;conv=>whnf) | (refine bS (by first | assumption | omega) ?_;conv=>whnf) | (refine zV _ rfl (by omega) ?_;conv=>whnf) | (refine lM (by assumption) (by omega) ?_;conv=>whnf) | (refine mS (by assumption) (by omega) ?_;conv=>whnf) | (refine kE rfl (by omega) ?_;conv=>whnf) | (refine lL (by omega) ?_;conv=>whnf) | (refine lQ (by omega) ?_;conv=>whnf) | (refine kA (by omega) ?_;conv=>whnf) | (refine kN rfl (by omega) ?_;conv=>whnf) | (refine oC rfl rfl (by omega) (by omega) ?_;conv=>whnf) | (refine lN (fun xhl=>?_);conv=>whnf) | (refine And.intro (by first | exact rfl | exact trivial | exact⟨trivial,trivial⟩ | exact Nat.le_of_ble_eq_true rfl | decide) ?_;conv=>whnf) | (refine And.intro (dG (aA _ _ _) rfl) ?_;conv=>whnf) | (refine aS (aA _ _ _) rfl ?_;conv=>whnf) | (refine And.intro (bB (by assumption)) ?_;conv=>whnf) | (refine aS (by assumption) (by exact rfl) ?_;conv=>whnf) | (refine And.intro (nM (by omega)) ?_;conv=>whnf) | (refine lenR (by omega) ?_;conv=>whnf))):∃ p,A p∧B p:=⟨p,h,k⟩
structure Hid (q:Prop):Prop where
 h:q
theorem aX {p q:Prop} (h:q) (s:Hid q→p:=by
 intro h
 conv=>whnf
 repeat (first | (refine lY aI ?_;conv=>whnf) | (refine zM aI ?_;conv=>whnf) | (refine aU (rV (lY aI ?_));conv=>whnf) | (refine lN (fun xhl=>?_);conv=>whnf) | (refine And.intro (by first | exact rfl | exact trivial | exact⟨trivial,trivial⟩ | exact Nat.le_of_ble_eq_true rfl | decide) ?_;conv=>whnf) | (refine And.intro (jT fun _=>rfl) ?_;conv=>whnf) | (refine And.intro (dG (aA _ _ _) rfl) ?_;conv=>whnf) | (refine aS (aA _ _ _) rfl ?_;conv=>whnf) | (refine And.intro (bB (by assumption)) ?_;conv=>whnf) | (refine aS (by assumption) (by exact rfl) ?_;conv=>whnf) | (refine And.intro (nM (by omega)) ?_;conv=>whnf) | (refine And.intro (fun _=>?_) pJ;conv=>whnf) | (refine And.intro (fun _=>?_) pH;conv=>whnf) | (refine And.intro pJ (fun _=>?_);conv=>whnf) | (refine And.intro pH (fun _=>?_);conv=>whnf))
 (repeat revert xhl);exact h.h):p:=s ⟨h⟩
theorem goE {p:Prop} (s:p:=by
 conv=>whnf
 repeat (first | (refine lY aI ?_;conv=>whnf) | (refine zM aI ?_;conv=>whnf) | (refine aU (rV (lY aI ?_));conv=>whnf) | (refine lN (fun xhl=>?_);conv=>whnf) | (refine And.intro (by first | exact rfl | exact trivial | exact⟨trivial,trivial⟩ | exact Nat.le_of_ble_eq_true rfl | decide) ?_;conv=>whnf) | (refine And.intro (jT fun _=>rfl) ?_;conv=>whnf) | (refine And.intro (dG (aA _ _ _) rfl) ?_;conv=>whnf) | (refine aS (aA _ _ _) rfl ?_;conv=>whnf) | (refine And.intro (bB (by assumption)) ?_;conv=>whnf) | (refine aS (by assumption) (by exact rfl) ?_;conv=>whnf) | (refine And.intro (nM (by omega)) ?_;conv=>whnf) | (refine And.intro (fun _=>?_) pJ;conv=>whnf) | (refine And.intro (fun _=>?_) pH;conv=>whnf) | (refine And.intro pJ (fun _=>?_);conv=>whnf) | (refine And.intro pH (fun _=>?_);conv=>whnf))):p:=s
theorem go {p q:Prop} (h:q) (s:Hid q→p:=by
 intro h
 conv=>whnf
 repeat (first | (refine lY aI ?_;conv=>whnf) | (refine zM aI ?_;conv=>whnf) | (refine aU (rV (lY aI ?_));conv=>whnf) | (refine lN (fun xhl=>?_);conv=>whnf) | (refine And.intro (by first | exact rfl | exact trivial | exact⟨trivial,trivial⟩ | exact Nat.le_of_ble_eq_true rfl | decide) ?_;conv=>whnf) | (refine And.intro (jT fun _=>rfl) ?_;conv=>whnf) | (refine And.intro (dG (aA _ _ _) rfl) ?_;conv=>whnf) | (refine aS (aA _ _ _) rfl ?_;conv=>whnf) | (refine And.intro (bB (by assumption)) ?_;conv=>whnf) | (refine aS (by assumption) (by exact rfl) ?_;conv=>whnf) | (refine And.intro (nM (by omega)) ?_;conv=>whnf) | (refine And.intro (fun _=>?_) pJ;conv=>whnf) | (refine And.intro (fun _=>?_) pH;conv=>whnf) | (refine And.intro pJ (fun _=>?_);conv=>whnf) | (refine And.intro pH (fun _=>?_);conv=>whnf) | (refine tE ?_;conv=>whnf) | (refine bS (by first | assumption | omega) ?_;conv=>whnf) | (refine zV _ rfl (by omega) ?_;conv=>whnf) | (refine lM (by assumption) (by omega) ?_;conv=>whnf) | (refine mS (by assumption) (by omega) ?_;conv=>whnf) | (refine kE rfl (by omega) ?_;conv=>whnf) | (refine lL (by omega) ?_;conv=>whnf) | (refine lQ (by omega) ?_;conv=>whnf) | (refine kA (by omega) ?_;conv=>whnf) | (refine kN rfl (by omega) ?_;conv=>whnf) | (refine oC rfl rfl (by omega) (by omega) ?_;conv=>whnf) | (refine And.intro (by first | exact trivial | exact⟨trivial,trivial⟩ | exact⟨trivial,trivial,trivial⟩ | exact⟨trivial,trivial,trivial,trivial⟩ | exact⟨trivial,trivial,trivial,trivial,trivial⟩ | exact⟨trivial,trivial,trivial,trivial,trivial,trivial⟩ | exact⟨trivial,trivial,trivial,trivial,trivial,trivial,trivial⟩ | exact⟨trivial,trivial,trivial,trivial,trivial,trivial,trivial,trivial⟩ | exact⟨bB (by assumption),trivial⟩ | exact⟨bO (by assumption),trivial⟩) ?_;conv=>whnf) | (refine And.intro (nM (by simp only[List.length_map];omega)) ?_;conv=>whnf) | (refine uG (Nat.le_of_ble_eq_true rfl) ?_;conv=>whnf) | (refine qN _ (by assumption) (by omega) (by rfl) (by rfl) (by rfl) ?_;conv=>whnf) | (refine rM _ (by assumption) (by omega) (by rfl) (by rfl) (by rfl) ?_;conv=>whnf) | (refine inl1 ?_;conv=>whnf) | (refine eV ?_;conv=>whnf) | (refine And.intro (sol1 rfl (by first | exact trivial | exact⟨trivial,trivial⟩ | exact⟨trivial,trivial,trivial⟩ | exact⟨trivial,trivial,trivial,trivial⟩ | exact⟨trivial,trivial,trivial,trivial,trivial⟩ | exact⟨trivial,trivial,trivial,trivial,trivial,trivial⟩ | exact⟨trivial,trivial,trivial,trivial,trivial,trivial,trivial⟩ | exact⟨trivial,trivial,trivial,trivial,trivial,trivial,trivial,trivial⟩ | exact⟨bB (by assumption),trivial⟩ | exact⟨bO (by assumption),trivial⟩)) ?_;conv=>whnf) | (refine And.intro (fG fun _=>⟨rfl,by first | exact trivial | exact⟨trivial,trivial⟩ | exact⟨trivial,trivial,trivial⟩ | exact⟨trivial,trivial,trivial,trivial⟩ | exact⟨trivial,trivial,trivial,trivial,trivial⟩ | exact⟨trivial,trivial,trivial,trivial,trivial,trivial⟩ | exact⟨trivial,trivial,trivial,trivial,trivial,trivial,trivial⟩ | exact⟨trivial,trivial,trivial,trivial,trivial,trivial,trivial,trivial⟩ | exact⟨bB (by assumption),trivial⟩ | exact⟨bO (by assumption),trivial⟩⟩) ?_;conv=>whnf) | (refine bX (by assumption) ?_;conv=>whnf) | (refine bX (aA _ _ _) ?_;conv=>whnf) | (refine lenI ?_;conv=>whnf) | (refine lenR (by omega) ?_;conv=>whnf) | (refine capI (by simp only[List.length_cons,List.length_nil,List.length_map];omega) ?_;conv=>whnf) | (refine lV ?_;conv=>whnf))
 (repeat revert xhl);exact h.h):p:=s ⟨h⟩
theorem nO {p q:Prop} (h:q) (s:Hid q→p:=by
 intro h
 conv=>whnf
 repeat (first | (refine zM aI ?_;conv=>whnf) | (refine lN (fun xhl=>?_);conv=>whnf) | (refine And.intro (by first | exact rfl | exact trivial | exact⟨trivial,trivial⟩ | exact Nat.le_of_ble_eq_true rfl | decide) ?_;conv=>whnf) | (refine And.intro (jT fun _=>rfl) ?_;conv=>whnf) | (refine And.intro (dG (aA _ _ _) rfl) ?_;conv=>whnf) | (refine aS (aA _ _ _) rfl ?_;conv=>whnf) | (refine And.intro (bB (by assumption)) ?_;conv=>whnf) | (refine aS (by assumption) (by exact rfl) ?_;conv=>whnf) | (refine And.intro (nM (by omega)) ?_;conv=>whnf) | (refine And.intro (fun _=>?_) pJ;conv=>whnf) | (refine And.intro (fun _=>?_) pH;conv=>whnf) | (refine And.intro pJ (fun _=>?_);conv=>whnf) | (refine And.intro pH (fun _=>?_);conv=>whnf) | (refine tE ?_;conv=>whnf) | (refine bS (by first | assumption | omega) ?_;conv=>whnf) | (refine zV _ rfl (by omega) ?_;conv=>whnf) | (refine lM (by assumption) (by omega) ?_;conv=>whnf) | (refine mS (by assumption) (by omega) ?_;conv=>whnf) | (refine kE rfl (by omega) ?_;conv=>whnf) | (refine lL (by omega) ?_;conv=>whnf) | (refine lQ (by omega) ?_;conv=>whnf) | (refine kA (by omega) ?_;conv=>whnf) | (refine kN rfl (by omega) ?_;conv=>whnf) | (refine oC rfl rfl (by omega) (by omega) ?_;conv=>whnf) | (refine And.intro (by first | exact trivial | exact⟨trivial,trivial⟩ | exact⟨trivial,trivial,trivial⟩ | exact⟨trivial,trivial,trivial,trivial⟩ | exact⟨trivial,trivial,trivial,trivial,trivial⟩ | exact⟨trivial,trivial,trivial,trivial,trivial,trivial⟩ | exact⟨trivial,trivial,trivial,trivial,trivial,trivial,trivial⟩ | exact⟨trivial,trivial,trivial,trivial,trivial,trivial,trivial,trivial⟩ | exact⟨bB (by assumption),trivial⟩ | exact⟨bO (by assumption),trivial⟩) ?_;conv=>whnf) | (refine And.intro (nM (by simp only[List.length_map];omega)) ?_;conv=>whnf) | (refine uG (Nat.le_of_ble_eq_true rfl) ?_;conv=>whnf) | (refine qN _ (by assumption) (by omega) (by rfl) (by rfl) (by rfl) ?_;conv=>whnf) | (refine rM _ (by assumption) (by omega) (by rfl) (by rfl) (by rfl) ?_;conv=>whnf) | (refine eV ?_;conv=>whnf) | (refine And.intro (sol1 rfl (by first | exact trivial | exact⟨trivial,trivial⟩ | exact⟨trivial,trivial,trivial⟩ | exact⟨trivial,trivial,trivial,trivial⟩ | exact⟨trivial,trivial,trivial,trivial,trivial⟩ | exact⟨trivial,trivial,trivial,trivial,trivial,trivial⟩ | exact⟨trivial,trivial,trivial,trivial,trivial,trivial,trivial⟩ | exact⟨trivial,trivial,trivial,trivial,trivial,trivial,trivial,trivial⟩ | exact⟨bB (by assumption),trivial⟩ | exact⟨bO (by assumption),trivial⟩)) ?_;conv=>whnf) | (refine And.intro (fG fun _=>⟨rfl,by first | exact trivial | exact⟨trivial,trivial⟩ | exact⟨trivial,trivial,trivial⟩ | exact⟨trivial,trivial,trivial,trivial⟩ | exact⟨trivial,trivial,trivial,trivial,trivial⟩ | exact⟨trivial,trivial,trivial,trivial,trivial,trivial⟩ | exact⟨trivial,trivial,trivial,trivial,trivial,trivial,trivial⟩ | exact⟨trivial,trivial,trivial,trivial,trivial,trivial,trivial,trivial⟩ | exact⟨bB (by assumption),trivial⟩ | exact⟨bO (by assumption),trivial⟩⟩) ?_;conv=>whnf) | (refine bX (by assumption) ?_;conv=>whnf) | (refine bX (aA _ _ _) ?_;conv=>whnf) | (refine lenI ?_;conv=>whnf) | (refine lenR (by omega) ?_;conv=>whnf) | (refine capI (by simp only[List.length_cons,List.length_nil,List.length_map];omega) ?_;conv=>whnf) | (refine lV ?_;conv=>whnf))
 (repeat revert xhl);exact h.h):p:=s ⟨h⟩
end
section
attribute [local irreducible] T TL
theorem aE {S:aD} {g h:Nat} {x y:AO} (k:S g=some x) (hh:S h=none):aK S h y g=some x:=by
 rw[aC (by rintro rfl;rw[hh] at k;cases k)];exact k
theorem gG {S:aD} {g ver j sz e:Nat} {old c:List PV} {k:aD→Prop} (h:S g=some (.row ver sz e [old])) (hj:j+c.length≤old.length) (hk:lE old j c fun new=>k (aK S g (.row ver sz e [new]))):stW S g ver 0 j sz c k:=by
 refine eR h rfl hj fun new hn=>?_
 rw[pC] at hk hn
 rw[← hn]
 exact hk
theorem vK {S:aD} {g ver sz e:Nat} {xs:List (List PV)} (h:S g=some (.row ver sz e xs)):S g=some (.row ver sz e xs):=h
theorem sC {S:aD} {g ver sz e:Nat} {xs:List (List PV)} (h:S g=some (.row ver sz e xs):=by first | assumption | exact aA _ _ _ | exact aE (by first | assumption | exact aA _ _ _ | exact aE (by first | assumption | exact aA _ _ _ | exact aE (by first | assumption | exact aA _ _ _ | exact aE (by first | assumption | exact aA _ _ _) (by assumption)) (by assumption)) (by assumption)) (by assumption)):S g=some (.row ver sz e xs):=h
theorem lkM {S:aD} {g:Nat} {x:AO} (h:S g=some x:=by first | assumption | exact aA _ _ _ | exact aE (by first | assumption | exact aA _ _ _ | exact aE (by first | assumption | exact aA _ _ _ | exact aE (by first | assumption | exact aA _ _ _ | exact aE (by first | assumption | exact aA _ _ _) (by assumption)) (by assumption)) (by assumption)) (by assumption)):S g=some x:=h
theorem aF {p q:Prop} (h:q) (s:Hid q→p:=by
 intro h
 conv=>whnf
 repeat (first | (refine lY aI ?_;conv=>whnf) | (refine zM aI ?_;conv=>whnf) | (refine aU (rV (lY aI ?_));conv=>whnf) | (refine lN (fun xhl=>?_);conv=>whnf) | (refine And.intro (by first | exact rfl | exact trivial | exact⟨trivial,trivial⟩ | exact Nat.le_of_ble_eq_true rfl | decide) ?_;conv=>whnf) | (refine And.intro (jT fun _=>rfl) ?_;conv=>whnf) | (refine And.intro (dG (aA _ _ _) rfl) ?_;conv=>whnf) | (refine aS sC (by exact rfl) ?_;conv=>whnf) | (refine And.intro (bB sC) ?_;conv=>whnf) | (refine aS sC (by exact rfl) ?_;conv=>whnf) | (refine And.intro (nM (by omega)) ?_;conv=>whnf) | (refine And.intro (fun _=>?_) pJ;conv=>whnf) | (refine And.intro (fun _=>?_) pH;conv=>whnf) | (refine And.intro pJ (fun _=>?_);conv=>whnf) | (refine And.intro pH (fun _=>?_);conv=>whnf) | (refine tE ?_;conv=>whnf) | (refine bS (by first | assumption | omega) ?_;conv=>whnf) | (refine zV _ rfl (by omega) ?_;conv=>whnf) | (refine lM (by assumption) (by omega) ?_;conv=>whnf) | (refine mS (by assumption) (by omega) ?_;conv=>whnf) | (refine kE rfl (by omega) ?_;conv=>whnf) | (refine lL (by omega) ?_;conv=>whnf) | (refine lQ (by omega) ?_;conv=>whnf) | (refine kA (by omega) ?_;conv=>whnf) | (refine kN rfl (by omega) ?_;conv=>whnf) | (refine oC rfl rfl (by omega) (by omega) ?_;conv=>whnf) | (refine And.intro (by first | exact trivial | exact⟨trivial,trivial⟩ | exact⟨trivial,trivial,trivial⟩ | exact⟨trivial,trivial,trivial,trivial⟩ | exact⟨trivial,trivial,trivial,trivial,trivial⟩ | exact⟨trivial,trivial,trivial,trivial,trivial,trivial⟩ | exact⟨trivial,trivial,trivial,trivial,trivial,trivial,trivial⟩ | exact⟨trivial,trivial,trivial,trivial,trivial,trivial,trivial,trivial⟩ | exact⟨bB sC,trivial⟩ | exact⟨bO (by assumption),trivial⟩) ?_;conv=>whnf) | (refine And.intro (show dS _ _ from (by repeat' (first | exact trivial | exact bB sC | exact bO lkM | refine And.intro ?_ ?_))) ?_;conv=>whnf) | (refine And.intro (show lH _ _ from (by first | exact trivial | exact bO lkM | exact bB sC)) ?_;conv=>whnf) | (refine And.intro (nM (by simp only[List.length_map];omega)) ?_;conv=>whnf) | (refine uG (Nat.le_of_ble_eq_true rfl) ?_;conv=>whnf) | (refine gG sC (Nat.le_of_ble_eq_true rfl) ?_;conv=>whnf) | (refine qN _ (by assumption) (by omega) (by rfl) (by rfl) (by rfl) ?_;conv=>whnf) | (refine rM _ (by assumption) (by omega) (by rfl) (by rfl) (by rfl) ?_;conv=>whnf) | (refine inl1 ?_;conv=>whnf) | (refine eV ?_;conv=>whnf) | (refine And.intro (sol1 rfl (by first | exact trivial | exact⟨trivial,trivial⟩ | exact⟨trivial,trivial,trivial⟩ | exact⟨trivial,trivial,trivial,trivial⟩ | exact⟨trivial,trivial,trivial,trivial,trivial⟩ | exact⟨trivial,trivial,trivial,trivial,trivial,trivial⟩ | exact⟨trivial,trivial,trivial,trivial,trivial,trivial,trivial⟩ | exact⟨trivial,trivial,trivial,trivial,trivial,trivial,trivial,trivial⟩ | exact⟨bB sC,trivial⟩ | exact⟨bO (by assumption),trivial⟩)) ?_;conv=>whnf) | (refine And.intro (fG fun _=>⟨rfl,by first | exact trivial | exact⟨trivial,trivial⟩ | exact⟨trivial,trivial,trivial⟩ | exact⟨trivial,trivial,trivial,trivial⟩ | exact⟨trivial,trivial,trivial,trivial,trivial⟩ | exact⟨trivial,trivial,trivial,trivial,trivial,trivial⟩ | exact⟨trivial,trivial,trivial,trivial,trivial,trivial,trivial⟩ | exact⟨trivial,trivial,trivial,trivial,trivial,trivial,trivial,trivial⟩ | exact⟨bB sC,trivial⟩ | exact⟨bO (by assumption),trivial⟩⟩) ?_;conv=>whnf) | (refine bX sC ?_;conv=>whnf) | (refine bX (aA _ _ _) ?_;conv=>whnf) | (refine lenI ?_;conv=>whnf) | (refine lenR (by omega) ?_;conv=>whnf) | (refine capI (by simp only[List.length_cons,List.length_nil,List.length_map];omega) ?_;conv=>whnf) | (refine lV ?_;conv=>whnf))
 (repeat revert xhl);exact h.h):p:=s ⟨h⟩
theorem goMC {p q:Prop} (h:q) (s:Hid q→p:=by
 intro h
 conv=>whnf
 repeat (first | (refine lY aI ?_;conv=>whnf) | (refine zM aI ?_;conv=>whnf) | (refine aU (rV (lY aI ?_));conv=>whnf) | (refine lN (fun xhl=>?_);conv=>whnf) | (refine And.intro (by first | exact rfl | exact trivial | exact⟨trivial,trivial⟩ | exact Nat.le_of_ble_eq_true rfl | decide) ?_;conv=>whnf) | (refine And.intro (jT fun _=>rfl) ?_;conv=>whnf) | (refine And.intro (dG (aA _ _ _) rfl) ?_;conv=>whnf) | (refine aS sC (by exact rfl) ?_;conv=>whnf) | (refine And.intro (bB sC) ?_;conv=>whnf) | (refine aS sC (by exact rfl) ?_;conv=>whnf) | (refine And.intro (nM (by omega)) ?_;conv=>whnf) | (refine And.intro (fun _=>?_) pJ;conv=>whnf) | (refine And.intro (fun _=>?_) pH;conv=>whnf) | (refine And.intro pJ (fun _=>?_);conv=>whnf) | (refine And.intro pH (fun _=>?_);conv=>whnf) | (refine bS (by first | assumption | omega) ?_;conv=>whnf) | (refine zV _ rfl (by omega) ?_;conv=>whnf) | (refine lM (by assumption) (by omega) ?_;conv=>whnf) | (refine mS (by assumption) (by omega) ?_;conv=>whnf) | (refine kE rfl (by omega) ?_;conv=>whnf) | (refine lL (by omega) ?_;conv=>whnf) | (refine lQ (by omega) ?_;conv=>whnf) | (refine kA (by omega) ?_;conv=>whnf) | (refine kN rfl (by omega) ?_;conv=>whnf) | (refine oC rfl rfl (by omega) (by omega) ?_;conv=>whnf) | (refine And.intro (by first | exact trivial | exact⟨trivial,trivial⟩ | exact⟨trivial,trivial,trivial⟩ | exact⟨trivial,trivial,trivial,trivial⟩ | exact⟨trivial,trivial,trivial,trivial,trivial⟩ | exact⟨trivial,trivial,trivial,trivial,trivial,trivial⟩ | exact⟨trivial,trivial,trivial,trivial,trivial,trivial,trivial⟩ | exact⟨trivial,trivial,trivial,trivial,trivial,trivial,trivial,trivial⟩ | exact⟨bB sC,trivial⟩ | exact⟨bO (by assumption),trivial⟩) ?_;conv=>whnf) | (refine And.intro (show dS _ _ from (by repeat' (first | exact trivial | exact bB sC | exact bO lkM | refine And.intro ?_ ?_))) ?_;conv=>whnf) | (refine And.intro (show lH _ _ from (by first | exact trivial | exact bO lkM | exact bB sC)) ?_;conv=>whnf) | (refine And.intro (nM (by simp only[List.length_map];omega)) ?_;conv=>whnf) | (refine uG (Nat.le_of_ble_eq_true rfl) ?_;conv=>whnf) | (refine gG sC (Nat.le_of_ble_eq_true rfl) ?_;conv=>whnf) | (refine qN _ (by assumption) (by omega) (by rfl) (by rfl) (by rfl) ?_;conv=>whnf) | (refine rM _ (by assumption) (by omega) (by rfl) (by rfl) (by rfl) ?_;conv=>whnf) | (refine eV ?_;conv=>whnf) | (refine And.intro (sol1 rfl (by first | exact trivial | exact⟨trivial,trivial⟩ | exact⟨trivial,trivial,trivial⟩ | exact⟨trivial,trivial,trivial,trivial⟩ | exact⟨trivial,trivial,trivial,trivial,trivial⟩ | exact⟨trivial,trivial,trivial,trivial,trivial,trivial⟩ | exact⟨trivial,trivial,trivial,trivial,trivial,trivial,trivial⟩ | exact⟨trivial,trivial,trivial,trivial,trivial,trivial,trivial,trivial⟩ | exact⟨bB sC,trivial⟩ | exact⟨bO (by assumption),trivial⟩)) ?_;conv=>whnf) | (refine And.intro (fG fun _=>⟨rfl,by first | exact trivial | exact⟨trivial,trivial⟩ | exact⟨trivial,trivial,trivial⟩ | exact⟨trivial,trivial,trivial,trivial⟩ | exact⟨trivial,trivial,trivial,trivial,trivial⟩ | exact⟨trivial,trivial,trivial,trivial,trivial,trivial⟩ | exact⟨trivial,trivial,trivial,trivial,trivial,trivial,trivial⟩ | exact⟨trivial,trivial,trivial,trivial,trivial,trivial,trivial,trivial⟩ | exact⟨bB sC,trivial⟩ | exact⟨bO (by assumption),trivial⟩⟩) ?_;conv=>whnf) | (refine bX sC ?_;conv=>whnf) | (refine bX (aA _ _ _) ?_;conv=>whnf) | (refine lenI ?_;conv=>whnf) | (refine lenR (by omega) ?_;conv=>whnf) | (refine capI (by simp only[List.length_cons,List.length_nil,List.length_map];omega) ?_;conv=>whnf) | (refine lV ?_;conv=>whnf))
 (repeat revert xhl);exact h.h):p:=s ⟨h⟩
theorem goMB {p q:Prop} (h:q) (s:Hid q→p:=by
 intro h
 conv=>whnf
 repeat (first | (refine lY aI ?_;conv=>whnf) | (refine zM aI ?_;conv=>whnf) | (refine aU (rV (lY aI ?_));conv=>whnf) | (refine lN (fun xhl=>?_);conv=>whnf) | (refine And.intro (by first | exact rfl | exact trivial | exact⟨trivial,trivial⟩ | exact Nat.le_of_ble_eq_true rfl | decide) ?_;conv=>whnf) | (refine And.intro (jT fun _=>rfl) ?_;conv=>whnf) | (refine And.intro (dG (aA _ _ _) rfl) ?_;conv=>whnf) | (refine aS sC (by exact rfl) ?_;conv=>whnf) | (refine And.intro (bB sC) ?_;conv=>whnf) | (refine aS sC (by exact rfl) ?_;conv=>whnf) | (refine And.intro (nM (by omega)) ?_;conv=>whnf) | (refine And.intro (fun _=>?_) pJ;conv=>whnf) | (refine And.intro (fun _=>?_) pH;conv=>whnf) | (refine And.intro pJ (fun _=>?_);conv=>whnf) | (refine And.intro pH (fun _=>?_);conv=>whnf) | (refine tE ?_;conv=>whnf) | (refine bS (by first | assumption | omega) ?_;conv=>whnf) | (refine zV _ rfl (by omega) ?_;conv=>whnf) | (refine lM (by assumption) (by omega) ?_;conv=>whnf) | (refine mS (by assumption) (by omega) ?_;conv=>whnf) | (refine kE rfl (by omega) ?_;conv=>whnf) | (refine lL (by omega) ?_;conv=>whnf) | (refine lQ (by omega) ?_;conv=>whnf) | (refine kA (by omega) ?_;conv=>whnf) | (refine kN rfl (by omega) ?_;conv=>whnf) | (refine oC rfl rfl (by omega) (by omega) ?_;conv=>whnf) | (refine And.intro (by first | exact trivial | exact⟨trivial,trivial⟩ | exact⟨trivial,trivial,trivial⟩ | exact⟨trivial,trivial,trivial,trivial⟩ | exact⟨trivial,trivial,trivial,trivial,trivial⟩ | exact⟨trivial,trivial,trivial,trivial,trivial,trivial⟩ | exact⟨trivial,trivial,trivial,trivial,trivial,trivial,trivial⟩ | exact⟨trivial,trivial,trivial,trivial,trivial,trivial,trivial,trivial⟩ | exact⟨bB sC,trivial⟩ | exact⟨bO (by assumption),trivial⟩) ?_;conv=>whnf) | (refine And.intro (show dS _ _ from (by repeat' (first | exact trivial | exact bB sC | exact bO lkM | refine And.intro ?_ ?_))) ?_;conv=>whnf) | (refine And.intro (show lH _ _ from (by first | exact trivial | exact bO lkM | exact bB sC)) ?_;conv=>whnf) | (refine And.intro (nM (by simp only[List.length_map];omega)) ?_;conv=>whnf) | (refine uG (Nat.le_of_ble_eq_true rfl) ?_;conv=>whnf) | (refine gG sC (Nat.le_of_ble_eq_true rfl) ?_;conv=>whnf) | (refine qN _ (by assumption) (by omega) (by rfl) (by rfl) (by rfl) ?_;conv=>whnf) | (refine rM _ (by assumption) (by omega) (by rfl) (by rfl) (by rfl) ?_;conv=>whnf) | (refine eV ?_;conv=>whnf) | (refine And.intro (sol1 rfl (by first | exact trivial | exact⟨trivial,trivial⟩ | exact⟨trivial,trivial,trivial⟩ | exact⟨trivial,trivial,trivial,trivial⟩ | exact⟨trivial,trivial,trivial,trivial,trivial⟩ | exact⟨trivial,trivial,trivial,trivial,trivial,trivial⟩ | exact⟨trivial,trivial,trivial,trivial,trivial,trivial,trivial⟩ | exact⟨trivial,trivial,trivial,trivial,trivial,trivial,trivial,trivial⟩ | exact⟨bB sC,trivial⟩ | exact⟨bO (by assumption),trivial⟩)) ?_;conv=>whnf) | (refine And.intro (fG fun _=>⟨rfl,by first | exact trivial | exact⟨trivial,trivial⟩ | exact⟨trivial,trivial,trivial⟩ | exact⟨trivial,trivial,trivial,trivial⟩ | exact⟨trivial,trivial,trivial,trivial,trivial⟩ | exact⟨trivial,trivial,trivial,trivial,trivial,trivial⟩ | exact⟨trivial,trivial,trivial,trivial,trivial,trivial,trivial⟩ | exact⟨trivial,trivial,trivial,trivial,trivial,trivial,trivial,trivial⟩ | exact⟨bB sC,trivial⟩ | exact⟨bO (by assumption),trivial⟩⟩) ?_;conv=>whnf) | (refine bX sC ?_;conv=>whnf) | (refine bX (aA _ _ _) ?_;conv=>whnf) | (refine lenI ?_;conv=>whnf) | (refine lenR (by omega) ?_;conv=>whnf) | (refine capI (by simp only[List.length_cons,List.length_nil,List.length_map];omega) ?_;conv=>whnf) | (refine lV ?_;conv=>whnf))
 (repeat revert xhl);exact h.h):p:=s ⟨h⟩
end
section
attribute [local irreducible] T TL
theorem sI {q p:Prop} (h:q) (s:Hid q→p:=by
 intro h
 conv=>whnf
 repeat (first | exact rfl | exact drawC_sp | (refine And.intro (fun _=>?_) pJ;conv=>whnf) | (refine And.intro (fun _=>?_) pH;conv=>whnf) | (refine And.intro pJ (fun _=>?_);conv=>whnf) | (refine And.intro pH (fun _=>?_);conv=>whnf) | (refine And.intro (jT fun _=>rfl) ?_;conv=>whnf) | (refine bS (by first | assumption | omega) ?_;conv=>whnf) | (refine zV _ rfl (by omega) ?_;conv=>whnf) | (refine lM (by assumption) (by omega) ?_;conv=>whnf) | (refine mS (by assumption) (by omega) ?_;conv=>whnf) | (refine kE rfl (by omega) ?_;conv=>whnf) | (refine lL (by omega) ?_;conv=>whnf) | (refine lQ (by omega) ?_;conv=>whnf) | (refine kA (by omega) ?_;conv=>whnf) | (refine kN rfl (by omega) ?_;conv=>whnf) | (refine oC rfl rfl (by omega) (by omega) ?_;conv=>whnf) | (refine lN (fun xhl=>?_);conv=>whnf) | (refine And.intro (by first | exact rfl | exact trivial | exact⟨trivial,trivial⟩ | exact Nat.le_of_ble_eq_true rfl | decide) ?_;conv=>whnf) | (refine And.intro (dG (aA _ _ _) rfl) ?_;conv=>whnf) | (refine aS sC (by exact rfl) ?_;conv=>whnf) | (refine And.intro (bB sC) ?_;conv=>whnf) | (refine aS sC (by exact rfl) ?_;conv=>whnf) | (refine And.intro (show dS _ _ from (by repeat' (first | exact trivial | exact bB sC | exact bO lkM | refine And.intro ?_ ?_))) ?_;conv=>whnf) | (refine And.intro (nM (by omega)) ?_;conv=>whnf) | (refine lenR (by omega) ?_;conv=>whnf))
 (repeat revert xhl);exact h.h):p:=s ⟨h⟩
theorem goY {p:Prop} (s:p:=by
 conv=>whnf
 repeat (first | exact rfl | exact drawC_sp | (refine And.intro (fun _=>?_) pJ;conv=>whnf) | (refine And.intro (fun _=>?_) pH;conv=>whnf) | (refine And.intro pJ (fun _=>?_);conv=>whnf) | (refine And.intro pH (fun _=>?_);conv=>whnf) | (refine And.intro (jT fun _=>rfl) ?_;conv=>whnf) | (refine bS (by first | assumption | omega) ?_;conv=>whnf) | (refine zV _ rfl (by omega) ?_;conv=>whnf) | (refine lM (by assumption) (by omega) ?_;conv=>whnf) | (refine mS (by assumption) (by omega) ?_;conv=>whnf) | (refine kE rfl (by omega) ?_;conv=>whnf) | (refine lL (by omega) ?_;conv=>whnf) | (refine lQ (by omega) ?_;conv=>whnf) | (refine kA (by omega) ?_;conv=>whnf) | (refine kN rfl (by omega) ?_;conv=>whnf) | (refine oC rfl rfl (by omega) (by omega) ?_;conv=>whnf) | (refine lN (fun xhl=>?_);conv=>whnf) | (refine And.intro (by first | exact rfl | exact trivial | exact⟨trivial,trivial⟩ | exact Nat.le_of_ble_eq_true rfl | decide) ?_;conv=>whnf) | (refine And.intro (dG (aA _ _ _) rfl) ?_;conv=>whnf) | (refine aS sC (by exact rfl) ?_;conv=>whnf) | (refine And.intro (bB sC) ?_;conv=>whnf) | (refine aS sC (by exact rfl) ?_;conv=>whnf) | (refine And.intro (show dS _ _ from (by repeat' (first | exact trivial | exact bB sC | exact bO lkM | refine And.intro ?_ ?_))) ?_;conv=>whnf) | (refine And.intro (nM (by omega)) ?_;conv=>whnf) | (refine lenR (by omega) ?_;conv=>whnf))):p:=s
end
section
attribute [local irreducible] T TL
theorem rQ {S:aD} {g h:Nat} {x y:AO} (hh:g≠h) (k:S g=some x):aK S h y g=some x:=by
 rw[aC hh];exact k
theorem lkne {p:Prop} (s:p:=by first | assumption | (refine Ne.symm ?_;assumption)):p:=s
theorem lk0 {p:Prop} (s:p:=by first | assumption | exact aA _ _ _):p:=s
theorem lk1 {p:Prop} (s:p:=by first | assumption | exact aA _ _ _ | exact aE lk0 (by assumption) | exact rQ lkne lk0):p:=s
theorem lk2 {p:Prop} (s:p:=by first | assumption | exact aA _ _ _ | exact aE lk1 (by assumption) | exact rQ lkne lk1):p:=s
theorem lk3 {p:Prop} (s:p:=by first | assumption | exact aA _ _ _ | exact aE lk2 (by assumption) | exact rQ lkne lk2):p:=s
theorem lk4 {p:Prop} (s:p:=by first | assumption | exact aA _ _ _ | exact aE lk3 (by assumption) | exact rQ lkne lk3):p:=s
theorem lk5 {p:Prop} (s:p:=by first | assumption | exact aA _ _ _ | exact aE lk4 (by assumption) | exact rQ lkne lk4):p:=s
theorem lk6 {p:Prop} (s:p:=by first | assumption | exact aA _ _ _ | exact aE lk5 (by assumption) | exact rQ lkne lk5):p:=s
theorem lk7 {p:Prop} (s:p:=by first | assumption | exact aA _ _ _ | exact aE lk6 (by assumption) | exact rQ lkne lk6):p:=s
theorem goN {p q:Prop} (h:q) (s:Hid q→p:=by
 intro h
 conv=>whnf
 repeat (first | (refine lY aI ?_;conv=>whnf) | (refine zM aI ?_;conv=>whnf) | (refine aU (rV (lY aI ?_));conv=>whnf) | (refine lN (fun xhl=>?_);conv=>whnf) | (refine And.intro (by first | exact rfl | exact trivial | exact⟨trivial,trivial⟩ | exact Nat.le_of_ble_eq_true rfl | decide) ?_;conv=>whnf) | (refine And.intro (jT fun _=>rfl) ?_;conv=>whnf) | (refine And.intro (dG (aA _ _ _) rfl) ?_;conv=>whnf) | (refine aS (by exact vK (by exact lk7)) (by exact rfl) ?_;conv=>whnf) | (refine And.intro (bB (by exact vK (by exact lk7))) ?_;conv=>whnf) | (refine aS (by exact vK (by exact lk7)) (by exact rfl) ?_;conv=>whnf) | (refine And.intro (nM (by omega)) ?_;conv=>whnf) | (refine And.intro (fun _=>?_) pJ;conv=>whnf) | (refine And.intro (fun _=>?_) pH;conv=>whnf) | (refine And.intro pJ (fun _=>?_);conv=>whnf) | (refine And.intro pH (fun _=>?_);conv=>whnf) | (refine tE ?_;conv=>whnf) | (refine bS (by first | assumption | omega) ?_;conv=>whnf) | (refine zV _ rfl (by omega) ?_;conv=>whnf) | (refine lM (by assumption) (by omega) ?_;conv=>whnf) | (refine mS (by assumption) (by omega) ?_;conv=>whnf) | (refine kE rfl (by omega) ?_;conv=>whnf) | (refine lL (by omega) ?_;conv=>whnf) | (refine lQ (by omega) ?_;conv=>whnf) | (refine kA (by omega) ?_;conv=>whnf) | (refine kN rfl (by omega) ?_;conv=>whnf) | (refine oC rfl rfl (by omega) (by omega) ?_;conv=>whnf) | (refine And.intro (by first | exact trivial | exact⟨trivial,trivial⟩ | exact⟨trivial,trivial,trivial⟩ | exact⟨trivial,trivial,trivial,trivial⟩ | exact⟨trivial,trivial,trivial,trivial,trivial⟩ | exact⟨trivial,trivial,trivial,trivial,trivial,trivial⟩ | exact⟨trivial,trivial,trivial,trivial,trivial,trivial,trivial⟩ | exact⟨trivial,trivial,trivial,trivial,trivial,trivial,trivial,trivial⟩ | exact⟨bB (by exact vK (by exact lk7)),trivial⟩ | exact⟨bO (by assumption),trivial⟩) ?_;conv=>whnf) | (refine And.intro (show dS _ _ from (by repeat' (first | exact trivial | exact bB (by exact vK (by exact lk7)) | exact bO (by exact lk7) | refine And.intro ?_ ?_))) ?_;conv=>whnf) | (refine And.intro (show lH _ _ from (by first | exact trivial | exact bO (by exact lk7) | exact bB (by exact vK (by exact lk7)))) ?_;conv=>whnf) | (refine And.intro (nM (by simp only[List.length_map];omega)) ?_;conv=>whnf) | (refine uG (Nat.le_of_ble_eq_true rfl) ?_;conv=>whnf) | (refine gG (by exact vK (by exact lk7)) (Nat.le_of_ble_eq_true rfl) ?_;conv=>whnf) | (refine qN _ (by assumption) (by omega) (by rfl) (by rfl) (by rfl) ?_;conv=>whnf) | (refine rM _ (by assumption) (by omega) (by rfl) (by rfl) (by rfl) ?_;conv=>whnf) | (refine inl1 ?_;conv=>whnf) | (refine eV ?_;conv=>whnf) | (refine And.intro (sol1 rfl (by first | exact trivial | exact⟨trivial,trivial⟩ | exact⟨trivial,trivial,trivial⟩ | exact⟨trivial,trivial,trivial,trivial⟩ | exact⟨trivial,trivial,trivial,trivial,trivial⟩ | exact⟨trivial,trivial,trivial,trivial,trivial,trivial⟩ | exact⟨trivial,trivial,trivial,trivial,trivial,trivial,trivial⟩ | exact⟨trivial,trivial,trivial,trivial,trivial,trivial,trivial,trivial⟩ | exact⟨bB (by exact vK (by exact lk7)),trivial⟩ | exact⟨bO (by assumption),trivial⟩)) ?_;conv=>whnf) | (refine And.intro (fG fun _=>⟨rfl,by first | exact trivial | exact⟨trivial,trivial⟩ | exact⟨trivial,trivial,trivial⟩ | exact⟨trivial,trivial,trivial,trivial⟩ | exact⟨trivial,trivial,trivial,trivial,trivial⟩ | exact⟨trivial,trivial,trivial,trivial,trivial,trivial⟩ | exact⟨trivial,trivial,trivial,trivial,trivial,trivial,trivial⟩ | exact⟨trivial,trivial,trivial,trivial,trivial,trivial,trivial,trivial⟩ | exact⟨bB (by exact vK (by exact lk7)),trivial⟩ | exact⟨bO (by assumption),trivial⟩⟩) ?_;conv=>whnf) | (refine bX (by exact vK (by exact lk7)) ?_;conv=>whnf) | (refine bX (aA _ _ _) ?_;conv=>whnf) | (refine lenI ?_;conv=>whnf) | (refine lenR (by omega) ?_;conv=>whnf) | (refine capI (by simp only[List.length_cons,List.length_nil,List.length_map];omega) ?_;conv=>whnf) | (refine lV ?_;conv=>whnf))
 (repeat revert xhl);exact h.h):p:=s ⟨h⟩
end
end Go.Proofs.YtbojdflgjpjbiaaGreat.L
