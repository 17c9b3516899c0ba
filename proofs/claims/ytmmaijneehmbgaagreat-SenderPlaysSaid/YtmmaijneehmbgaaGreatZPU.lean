import Derived.Test.YtmmaijneehmbgaaGreatZRP
set_option linter.all false
